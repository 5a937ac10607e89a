/- Proofs of one of several: ProveOneOf (printed by gen_one6.py). -/
import Derived.Test.YtegomgnlhcbmfaaOne5V
import Derived.Test.YtegomgnlhcbmfaaRowJV
import Derived.Deep.CutRange
namespace Go.Proofs.Ytegomgnlhcbmfaa
open Go.RowKit
set_option linter.unusedSimpArgs false
set_option linter.unusedVariables false

set_option maxRecDepth 100000 in
set_option maxHeartbeats 16000000 in
theorem impl_ProveOneOf (gr : GroupD) (s : ByteArray) (ev : Value) (l : List EqualLogD) (k x : Int) (cv : Value) (cs : List Int) (w : World) (hs : s.size ≤ 1000000) (hx : I64 x) (hev : RdR rEqualLog w ev l) (hcv : Ints w cv cs) :
    Calls Try.prog 20 #[.agg #[.int .i64 gr.p, .int .i64 gr.q, .int .i64 gr.g], .string s, ev, .int .i64 k, .int .i64 x, cv] w fun e w' => RetP e w' w.heap.size (ooB gr s l k x cs) (ooF gr s l k x cs) ∧ Below w.heap.size w w' := by
  obtain ⟨eva, evn, evc, rfl⟩ := hev.shape
  have Eev := Lib.hid hev.len
  have Kev := Lib.hid hev.capMax
  have Hev := Lib.hid hev
  clear hev
  obtain ⟨cva, cvn, cvc, rfl⟩ := hcv.shape
  have Ecv := Lib.hid hcv.len
  have Kcv := Lib.hid hcv.capMax
  have Hcv := Lib.hid hcv
  clear hcv
  have HS3 : Hid (s.size ≤ 9223372036854775807) := by unfold Hid; omega
  have HIX := Lib.hid hx
  clear hs hx
  obtain ⟨W, hW⟩ : ∃ W, W = (w.alloc (.cells #[.int .i64 gr.p, .int .i64 gr.q, .int .i64 gr.g] 24)).alloc (.cells #[(.slice none 0 0), (.slice none 0 0), (.slice none 0 0)] 47) := ⟨_, rfl⟩
  have HB : Hid (Below w.heap.size w W) := by unfold Hid; rw [hW]; (repeat (first | exact Below.refl _ _ | assumption | refine Below.drew ?_ | refine Below.alloc ?_ (by first | (simp; done) | (simp; omega)) _ | refine Below.setCell ?_ (by first | (simp; done) | (simp; omega)) _))
  have c0_0 : W.cell? ⟨w.heap.size, 0, none⟩ = some (.int .i64 gr.p) := by rw [hW]; simp [go_sem]
  have c0_1 : W.cell? ⟨w.heap.size, 1, none⟩ = some (.int .i64 gr.q) := by rw [hW]; simp [go_sem]
  have c0_2 : W.cell? ⟨w.heap.size, 2, none⟩ = some (.int .i64 gr.g) := by rw [hW]; simp [go_sem]
  have HR1 : Hid (BoxN W (w.heap.size + 1) 47 [(.slice none 0 0), (.slice none 0 0), (.slice none 0 0)]) := by unfold Hid; rw [hW]; have h := (BoxN.new (w.alloc (.cells #[.int .i64 gr.p, .int .i64 gr.q, .int .i64 gr.g] 24)) [(.slice none 0 0), (.slice none 0 0), (.slice none 0 0)] 47); simpa using h
  have HSW : Hid (W.heap.size = w.heap.size + 2) := by unfold Hid; rw [hW]; simp
  have lr1 : w.heap.size + 1 < W.heap.size := by have := HSW.out; omega
  have HGX : Hid (BoxN W w.heap.size 24 [.int .i64 gr.p, .int .i64 gr.q, .int .i64 gr.g]) := by unfold Hid; rw [hW]; have h := (BoxN.new w [.int .i64 gr.p, .int .i64 gr.q, .int .i64 gr.g] 24).alloc (.cells #[.slice none 0 0, .slice none 0 0, .slice none 0 0] 47); simpa using h
  go_enter Try.func20, Try.ntmps20
  go_wp2_with fail
  rw [← hW]
  have hse : w.heap.size + 1 + 1 = W.heap.size := by have := HSW.out; omega
  (try rw [hse])
  clear hse
  clear hW
  have hc : Below W.heap.size W W := Below.refl _ _
  have HCC : Hid (∀ u, Below W.heap.size W u → u.cell? ⟨w.heap.size, 0, none⟩ = some (.int .i64 gr.p) ∧ u.cell? ⟨w.heap.size, 1, none⟩ = some (.int .i64 gr.q) ∧ u.cell? ⟨w.heap.size, 2, none⟩ = some (.int .i64 gr.g)) := fun u h => ⟨box_at c0_0 h, box_at c0_1 h, box_at c0_2 h⟩
  cases hc1 : goodG gr with
  | false =>
    have Hhc1 := Lib.hid hc1
    clear hc1
    try (go_wp2_with fail)
    refine wp_region_noPanic ?_
    refine wp_region_P (fun w' => w'.cell? ⟨w.heap.size, 0, none⟩ = some (.int .i64 gr.p) ∧ w'.cell? ⟨w.heap.size, 1, none⟩ = some (.int .i64 gr.q) ∧ w'.cell? ⟨w.heap.size, 2, none⟩ = some (.int .i64 gr.g)) 55 [(0, []), (1, [0]), (2, [0]), (3, [0]), (4, [0]), (5, [0, 1]), (6, [0, 2]), (7, [3, 0]), (8, [0]), (9, [0]), (10, [1]), (11, [1, 0, 2]), (12, [0, 3]), (13, [4, 0]), (14, [0]), (15, [0]), (16, [1]), (17, [0, 2]), (18, [0, 3]), (19, [3, 0, 4]), (20, [0, 5]), (21, [6, 0]), (22, [0]), (23, [0]), (24, [1]), (25, [1, 0, 2]), (26, [0, 3]), (27, [4, 0]), (28, [0]), (29, [0]), (30, [0, 1]), (31, [2]), (32, [0, 3]), (33, [0, 4]), (34, [0, 5]), (35, [4, 0, 6]), (36, [7, 0]), (37, [0]), (38, [0]), (39, [1]), (40, [1, 0, 2]), (41, [0, 3]), (42, [4, 0]), (43, [0]), (44, [0]), (45, [1]), (46, [2]), (47, [1, 0, 3]), (48, [0, 4]), (49, [5]), (50, [5, 1, 0, 6]), (51, [0, 7]), (52, [8, 0])] [] (by kernel_rfl) (by kernel_rfl) (by kernel_rfl) rfl (fun _ _ _ _ h => h) (fun w' h => ⟨box_at c0_0 h, box_at c0_1 h, box_at c0_2 h⟩) ?_
    simp only [pickP, pickN, List.getElem?_cons_zero, List.getElem?_cons_succ]
    -- 0: load 24 t6
    refine' chainP_read (d := (some 25)) _ rfl rfl (fun w' hS' => ?_) ?_; rotate_left
    · simp only [lookP, allP, Act.put, List.getElem?_cons_zero, List.getElem?_cons_succ, List.setIfInBounds_toArray, List.set_cons_zero, List.set_cons_succ]
      (try dsimp only at hS')
      go_simp
      (try with_reducible rfl)
    -- 1: call { callee := value (func 90), args := #[t25], argTypes := #[24] }
    refine chainP_call (d := (some 26)) (.bool false) rfl rfl (fun w' hS' => ?_) ?_
    · simp only [lookP, allP, Act.put, List.getElem?_cons_zero, List.getElem?_cons_succ, List.setIfInBounds_toArray, List.set_cons_zero, List.set_cons_succ]
      intro K hK
      go_simp
      go_at_call 90
      refine (impl_IsValidGroup gr _).mono ?_
      rintro e u ⟨rfl, hq⟩
      rw [Hhc1.out]
      exact hK.out _ hq
    iterate 2 (refine' chainP_read _ rfl rfl (fun w' hS' => ?_) ?_; rotate_left; · (simp only [lookP, allP, Act.put, List.getElem?_cons_zero, List.getElem?_cons_succ, List.setIfInBounds_toArray, List.set_cons_zero, List.set_cons_succ]; (try dsimp only at hS'); go_simp; (try with_reducible rfl)))
    -- 4: move t1
    refine chainP_skip (d := (some 29)) rfl (fun w' hS' => ?_) ?_
    · simp only [lookP, allP, Act.put, List.getElem?_cons_zero, List.getElem?_cons_succ, List.setIfInBounds_toArray, List.set_cons_zero, List.set_cons_succ]
      kernel_rfl
    -- 5: call { callee := value (func 99), args := #[t29], argTypes := #[9] }
    refine chainP_skip (d := (some 30)) rfl (fun w' hS' => ?_) ?_
    · simp only [lookP, allP, Act.put, List.getElem?_cons_zero, List.getElem?_cons_succ, List.setIfInBounds_toArray, List.set_cons_zero, List.set_cons_succ]
      kernel_rfl
    -- 6: unOp Unnot 4 t30
    refine chainP_skip (d := (some 31)) rfl (fun w' hS' => ?_) ?_
    · simp only [lookP, allP, Act.put, List.getElem?_cons_zero, List.getElem?_cons_succ, List.setIfInBounds_toArray, List.set_cons_zero, List.set_cons_succ]
      kernel_rfl
    iterate 2 (refine' chainP_read _ rfl rfl (fun w' hS' => ?_) ?_; rotate_left; · (simp only [lookP, allP, Act.put, List.getElem?_cons_zero, List.getElem?_cons_succ, List.setIfInBounds_toArray, List.set_cons_zero, List.set_cons_succ]; (try dsimp only at hS'); go_simp; (try with_reducible rfl)))
    -- 9: load 24 t6
    refine chainP_skip (d := (some 34)) rfl (fun w' hS' => ?_) ?_
    · simp only [lookP, allP, Act.put, List.getElem?_cons_zero, List.getElem?_cons_succ, List.setIfInBounds_toArray, List.set_cons_zero, List.set_cons_succ]
      kernel_rfl
    -- 10: move t2
    refine chainP_skip (d := (some 35)) rfl (fun w' hS' => ?_) ?_
    · simp only [lookP, allP, Act.put, List.getElem?_cons_zero, List.getElem?_cons_succ, List.setIfInBounds_toArray, List.set_cons_zero, List.set_cons_succ]
      kernel_rfl
    -- 11: call { callee := value (func 100), args := #[t34, t35], argTypes := #[24, 42] }
    refine chainP_skip (d := (some 36)) rfl (fun w' hS' => ?_) ?_
    · simp only [lookP, allP, Act.put, List.getElem?_cons_zero, List.getElem?_cons_succ, List.setIfInBounds_toArray, List.set_cons_zero, List.set_cons_succ]
      kernel_rfl
    -- 12: unOp Unnot 4 t36
    refine chainP_skip (d := (some 37)) rfl (fun w' hS' => ?_) ?_
    · simp only [lookP, allP, Act.put, List.getElem?_cons_zero, List.getElem?_cons_succ, List.setIfInBounds_toArray, List.set_cons_zero, List.set_cons_succ]
      kernel_rfl
    iterate 2 (refine' chainP_read _ rfl rfl (fun w' hS' => ?_) ?_; rotate_left; · (simp only [lookP, allP, Act.put, List.getElem?_cons_zero, List.getElem?_cons_succ, List.setIfInBounds_toArray, List.set_cons_zero, List.set_cons_succ]; (try dsimp only at hS'); go_simp; (try with_reducible rfl)))
    -- 15: move t3
    refine chainP_skip (d := (some 40)) rfl (fun w' hS' => ?_) ?_
    · simp only [lookP, allP, Act.put, List.getElem?_cons_zero, List.getElem?_cons_succ, List.setIfInBounds_toArray, List.set_cons_zero, List.set_cons_succ]
      kernel_rfl
    -- 16: move t2
    refine chainP_skip (d := (some 41)) rfl (fun w' hS' => ?_) ?_
    · simp only [lookP, allP, Act.put, List.getElem?_cons_zero, List.getElem?_cons_succ, List.setIfInBounds_toArray, List.set_cons_zero, List.set_cons_succ]
      kernel_rfl
    -- 17: call { callee := builtin Builtin.len, args := #[t41], argTypes := #[42] }
    refine chainP_skip (d := (some 42)) rfl (fun w' hS' => ?_) ?_
    · simp only [lookP, allP, Act.put, List.getElem?_cons_zero, List.getElem?_cons_succ, List.setIfInBounds_toArray, List.set_cons_zero, List.set_cons_succ]
      kernel_rfl
    -- 18: binOp Binsub 3 t42 (const (int i64 1)) 3
    refine chainP_skip (d := (some 43)) rfl (fun w' hS' => ?_) ?_
    · simp only [lookP, allP, Act.put, List.getElem?_cons_zero, List.getElem?_cons_succ, List.setIfInBounds_toArray, List.set_cons_zero, List.set_cons_succ]
      kernel_rfl
    -- 19: call { callee := value (func 101), args := #[t40, const (int i64 0), t43], argTypes := #[3, 3, 3] }
    refine chainP_skip (d := (some 44)) rfl (fun w' hS' => ?_) ?_
    · simp only [lookP, allP, Act.put, List.getElem?_cons_zero, List.getElem?_cons_succ, List.setIfInBounds_toArray, List.set_cons_zero, List.set_cons_succ]
      kernel_rfl
    -- 20: unOp Unnot 4 t44
    refine chainP_skip (d := (some 45)) rfl (fun w' hS' => ?_) ?_
    · simp only [lookP, allP, Act.put, List.getElem?_cons_zero, List.getElem?_cons_succ, List.setIfInBounds_toArray, List.set_cons_zero, List.set_cons_succ]
      kernel_rfl
    iterate 2 (refine' chainP_read _ rfl rfl (fun w' hS' => ?_) ?_; rotate_left; · (simp only [lookP, allP, Act.put, List.getElem?_cons_zero, List.getElem?_cons_succ, List.setIfInBounds_toArray, List.set_cons_zero, List.set_cons_succ]; (try dsimp only at hS'); go_simp; (try with_reducible rfl)))
    -- 23: load 24 t6
    refine chainP_skip (d := (some 48)) rfl (fun w' hS' => ?_) ?_
    · simp only [lookP, allP, Act.put, List.getElem?_cons_zero, List.getElem?_cons_succ, List.setIfInBounds_toArray, List.set_cons_zero, List.set_cons_succ]
      kernel_rfl
    -- 24: move t4
    refine chainP_skip (d := (some 49)) rfl (fun w' hS' => ?_) ?_
    · simp only [lookP, allP, Act.put, List.getElem?_cons_zero, List.getElem?_cons_succ, List.setIfInBounds_toArray, List.set_cons_zero, List.set_cons_succ]
      kernel_rfl
    -- 25: call { callee := value (func 71), args := #[t48, t49], argTypes := #[24, 3] }
    refine chainP_skip (d := (some 50)) rfl (fun w' hS' => ?_) ?_
    · simp only [lookP, allP, Act.put, List.getElem?_cons_zero, List.getElem?_cons_succ, List.setIfInBounds_toArray, List.set_cons_zero, List.set_cons_succ]
      kernel_rfl
    -- 26: unOp Unnot 4 t50
    refine chainP_skip (d := (some 51)) rfl (fun w' hS' => ?_) ?_
    · simp only [lookP, allP, Act.put, List.getElem?_cons_zero, List.getElem?_cons_succ, List.setIfInBounds_toArray, List.set_cons_zero, List.set_cons_succ]
      kernel_rfl
    iterate 2 (refine' chainP_read _ rfl rfl (fun w' hS' => ?_) ?_; rotate_left; · (simp only [lookP, allP, Act.put, List.getElem?_cons_zero, List.getElem?_cons_succ, List.setIfInBounds_toArray, List.set_cons_zero, List.set_cons_succ]; (try dsimp only at hS'); go_simp; (try with_reducible rfl)))
    -- 29: move t5
    refine chainP_skip (d := (some 54)) rfl (fun w' hS' => ?_) ?_
    · simp only [lookP, allP, Act.put, List.getElem?_cons_zero, List.getElem?_cons_succ, List.setIfInBounds_toArray, List.set_cons_zero, List.set_cons_succ]
      kernel_rfl
    -- 30: call { callee := builtin Builtin.len, args := #[t54], argTypes := #[43] }
    refine chainP_skip (d := (some 55)) rfl (fun w' hS' => ?_) ?_
    · simp only [lookP, allP, Act.put, List.getElem?_cons_zero, List.getElem?_cons_succ, List.setIfInBounds_toArray, List.set_cons_zero, List.set_cons_succ]
      kernel_rfl
    -- 31: move t2
    refine chainP_skip (d := (some 56)) rfl (fun w' hS' => ?_) ?_
    · simp only [lookP, allP, Act.put, List.getElem?_cons_zero, List.getElem?_cons_succ, List.setIfInBounds_toArray, List.set_cons_zero, List.set_cons_succ]
      kernel_rfl
    -- 32: call { callee := builtin Builtin.len, args := #[t56], argTypes := #[42] }
    refine chainP_skip (d := (some 57)) rfl (fun w' hS' => ?_) ?_
    · simp only [lookP, allP, Act.put, List.getElem?_cons_zero, List.getElem?_cons_succ, List.setIfInBounds_toArray, List.set_cons_zero, List.set_cons_succ]
      kernel_rfl
    -- 33: binOp Binmul 3 (const (int i64 2)) t57 3
    refine chainP_skip (d := (some 58)) rfl (fun w' hS' => ?_) ?_
    · simp only [lookP, allP, Act.put, List.getElem?_cons_zero, List.getElem?_cons_succ, List.setIfInBounds_toArray, List.set_cons_zero, List.set_cons_succ]
      kernel_rfl
    -- 34: binOp Binsub 3 t58 (const (int i64 1)) 3
    refine chainP_skip (d := (some 59)) rfl (fun w' hS' => ?_) ?_
    · simp only [lookP, allP, Act.put, List.getElem?_cons_zero, List.getElem?_cons_succ, List.setIfInBounds_toArray, List.set_cons_zero, List.set_cons_succ]
      kernel_rfl
    -- 35: binOp Binneq 3 t55 t59 3
    refine chainP_skip (d := (some 60)) rfl (fun w' hS' => ?_) ?_
    · simp only [lookP, allP, Act.put, List.getElem?_cons_zero, List.getElem?_cons_succ, List.setIfInBounds_toArray, List.set_cons_zero, List.set_cons_succ]
      kernel_rfl
    iterate 2 (refine' chainP_read _ rfl rfl (fun w' hS' => ?_) ?_; rotate_left; · (simp only [lookP, allP, Act.put, List.getElem?_cons_zero, List.getElem?_cons_succ, List.setIfInBounds_toArray, List.set_cons_zero, List.set_cons_succ]; (try dsimp only at hS'); go_simp; (try with_reducible rfl)))
    -- 38: load 24 t6
    refine chainP_skip (d := (some 63)) rfl (fun w' hS' => ?_) ?_
    · simp only [lookP, allP, Act.put, List.getElem?_cons_zero, List.getElem?_cons_succ, List.setIfInBounds_toArray, List.set_cons_zero, List.set_cons_succ]
      kernel_rfl
    -- 39: move t5
    refine chainP_skip (d := (some 64)) rfl (fun w' hS' => ?_) ?_
    · simp only [lookP, allP, Act.put, List.getElem?_cons_zero, List.getElem?_cons_succ, List.setIfInBounds_toArray, List.set_cons_zero, List.set_cons_succ]
      kernel_rfl
    -- 40: call { callee := value (func 102), args := #[t63, t64], argTypes := #[24, 43] }
    refine chainP_skip (d := (some 65)) rfl (fun w' hS' => ?_) ?_
    · simp only [lookP, allP, Act.put, List.getElem?_cons_zero, List.getElem?_cons_succ, List.setIfInBounds_toArray, List.set_cons_zero, List.set_cons_succ]
      kernel_rfl
    -- 41: unOp Unnot 4 t65
    refine chainP_skip (d := (some 66)) rfl (fun w' hS' => ?_) ?_
    · simp only [lookP, allP, Act.put, List.getElem?_cons_zero, List.getElem?_cons_succ, List.setIfInBounds_toArray, List.set_cons_zero, List.set_cons_succ]
      kernel_rfl
    iterate 2 (refine' chainP_read _ rfl rfl (fun w' hS' => ?_) ?_; rotate_left; · (simp only [lookP, allP, Act.put, List.getElem?_cons_zero, List.getElem?_cons_succ, List.setIfInBounds_toArray, List.set_cons_zero, List.set_cons_succ]; (try dsimp only at hS'); go_simp; (try with_reducible rfl)))
    -- 44: load 24 t6
    refine chainP_skip (d := (some 69)) rfl (fun w' hS' => ?_) ?_
    · simp only [lookP, allP, Act.put, List.getElem?_cons_zero, List.getElem?_cons_succ, List.setIfInBounds_toArray, List.set_cons_zero, List.set_cons_succ]
      kernel_rfl
    -- 45: move t2
    refine chainP_skip (d := (some 70)) rfl (fun w' hS' => ?_) ?_
    · simp only [lookP, allP, Act.put, List.getElem?_cons_zero, List.getElem?_cons_succ, List.setIfInBounds_toArray, List.set_cons_zero, List.set_cons_succ]
      kernel_rfl
    -- 46: move t3
    refine chainP_skip (d := (some 71)) rfl (fun w' hS' => ?_) ?_
    · simp only [lookP, allP, Act.put, List.getElem?_cons_zero, List.getElem?_cons_succ, List.setIfInBounds_toArray, List.set_cons_zero, List.set_cons_succ]
      kernel_rfl
    -- 47: indexAddr 42 t70 t71
    refine chainP_skip (d := (some 72)) rfl (fun w' hS' => ?_) ?_
    · simp only [lookP, allP, Act.put, List.getElem?_cons_zero, List.getElem?_cons_succ, List.setIfInBounds_toArray, List.set_cons_zero, List.set_cons_succ]
      kernel_rfl
    -- 48: load 31 t72
    refine chainP_skip (d := (some 73)) rfl (fun w' hS' => ?_) ?_
    · simp only [lookP, allP, Act.put, List.getElem?_cons_zero, List.getElem?_cons_succ, List.setIfInBounds_toArray, List.set_cons_zero, List.set_cons_succ]
      kernel_rfl
    -- 49: move t4
    refine chainP_skip (d := (some 74)) rfl (fun w' hS' => ?_) ?_
    · simp only [lookP, allP, Act.put, List.getElem?_cons_zero, List.getElem?_cons_succ, List.setIfInBounds_toArray, List.set_cons_zero, List.set_cons_succ]
      kernel_rfl
    -- 50: call { callee := value (func 91), args := #[t69, t73, t74], argTypes := #[24, 31, 3] }
    refine chainP_skip (d := (some 75)) rfl (fun w' hS' => ?_) ?_
    · simp only [lookP, allP, Act.put, List.getElem?_cons_zero, List.getElem?_cons_succ, List.setIfInBounds_toArray, List.set_cons_zero, List.set_cons_succ]
      kernel_rfl
    -- 51: unOp Unnot 4 t75
    refine chainP_skip (d := (some 76)) rfl (fun w' hS' => ?_) ?_
    · simp only [lookP, allP, Act.put, List.getElem?_cons_zero, List.getElem?_cons_succ, List.setIfInBounds_toArray, List.set_cons_zero, List.set_cons_succ]
      kernel_rfl
    -- 52: pick t68 (const (bool true)) t76
    refine' chainP_read (d := (some 77)) _ rfl rfl (fun w' hS' => ?_) ?_; rotate_left
    · simp only [lookP, allP, Act.put, List.getElem?_cons_zero, List.getElem?_cons_succ, List.setIfInBounds_toArray, List.set_cons_zero, List.set_cons_succ]
      (try dsimp only at hS')
      go_simp
      (try with_reducible rfl)
    refine chainP_nil (fun u1 hS' => ?_)
    simp only [allP, Act.put, List.setIfInBounds_toArray, List.set_cons_zero, List.set_cons_succ]
    have hq1 := hS'.1
    clear hS'
    replace hc := Below.next hc hq1
    clear hq1 c0_0 c0_1 c0_2
    obtain ⟨c0_0, c0_1, c0_2⟩ := HCC.out _ hc
    go_wp2_with fail
    refine NoPanic.normal ?_
    have HRE1 := Lib.hid (HR1.out.below hc)
    clear HR1
    have HBE := Lib.hid (HB.out.trans (hc.mono HB.out.size))
    have r1_0 := HRE1.out.cell (i := 0) rfl
    have r1_1 := HRE1.out.cell (i := 1) rfl
    have r1_2 := HRE1.out.cell (i := 2) rfl
    have fr1 := fun j => HRE1.out.frozen j
    go_wp2_with fail
    have HRF := Lib.hid (((HRE1.out.set 0 ((.slice none 0 0))).set 1 ((.slice none 0 0))).set 2 ((.slice none 0 0)))
    have HBF := Lib.hid (((HBE.out.setCell (p := ⟨w.heap.size + 1, 0, none⟩) (by show w.heap.size ≤ w.heap.size + 1; omega) ((.slice none 0 0))).setCell (p := ⟨w.heap.size + 1, 1, none⟩) (by show w.heap.size ≤ w.heap.size + 1; omega) ((.slice none 0 0))).setCell (p := ⟨w.heap.size + 1, 2, none⟩) (by show w.heap.size ≤ w.heap.size + 1; omega) ((.slice none 0 0)))
    clear r1_0 r1_1 r1_2 fr1
    have r1_0 := HRF.out.cell (i := 0) rfl
    have r1_1 := HRF.out.cell (i := 1) rfl
    have r1_2 := HRF.out.cell (i := 2) rfl
    try (go_wp2_with fail)
    have HVB : Hid (ooB gr s l k x cs = false) := by unfold Hid; simp [ooB, Hhc1.out]
    have HPR : Hid (ooF gr s l k x cs = ⟨[], [], []⟩) := by unfold Hid ooF; rw [if_neg (by rw [HVB.out]; simp)]
    refine bodyPost_ret (v := .tuple #[.agg #[(.slice none 0 0), (.slice none 0 0), (.slice none 0 0)], .bool false]) (by simp [results, Try.results20, go_sem, r1_0, r1_1, r1_2]) rfl ⟨(by rw [HVB.out, HPR.out]; exact RetP.mk (OwnI.nil _ _) (OwnI.nil _ _) (OwnI.nil _ _)), HBF.out⟩
  | true =>
    have HG := Lib.hid (goodG_ok hc1)
    have Hhc1 := Lib.hid hc1
    clear hc1
    cases hc2 : decide (s.size ≤ 40) with
    | false =>
      try (go_wp2_with fail)
      refine wp_region_noPanic ?_
      refine wp_region_P (fun w' => w'.cell? ⟨w.heap.size, 0, none⟩ = some (.int .i64 gr.p) ∧ w'.cell? ⟨w.heap.size, 1, none⟩ = some (.int .i64 gr.q) ∧ w'.cell? ⟨w.heap.size, 2, none⟩ = some (.int .i64 gr.g)) 55 [(0, []), (1, [0]), (2, [0]), (3, [0]), (4, [0]), (5, [0, 1]), (6, [0, 2]), (7, [3, 0]), (8, [0]), (9, [0]), (10, [1]), (11, [1, 0, 2]), (12, [0, 3]), (13, [4, 0]), (14, [0]), (15, [0]), (16, [1]), (17, [0, 2]), (18, [0, 3]), (19, [3, 0, 4]), (20, [0, 5]), (21, [6, 0]), (22, [0]), (23, [0]), (24, [1]), (25, [1, 0, 2]), (26, [0, 3]), (27, [4, 0]), (28, [0]), (29, [0]), (30, [0, 1]), (31, [2]), (32, [0, 3]), (33, [0, 4]), (34, [0, 5]), (35, [4, 0, 6]), (36, [7, 0]), (37, [0]), (38, [0]), (39, [1]), (40, [1, 0, 2]), (41, [0, 3]), (42, [4, 0]), (43, [0]), (44, [0]), (45, [1]), (46, [2]), (47, [1, 0, 3]), (48, [0, 4]), (49, [5]), (50, [5, 1, 0, 6]), (51, [0, 7]), (52, [8, 0])] [] (by kernel_rfl) (by kernel_rfl) (by kernel_rfl) rfl (fun _ _ _ _ h => h) (fun w' h => ⟨box_at c0_0 h, box_at c0_1 h, box_at c0_2 h⟩) ?_
      simp only [pickP, pickN, List.getElem?_cons_zero, List.getElem?_cons_succ]
      -- 0: load 24 t6
      refine' chainP_read (d := (some 25)) _ rfl rfl (fun w' hS' => ?_) ?_; rotate_left
      · simp only [lookP, allP, Act.put, List.getElem?_cons_zero, List.getElem?_cons_succ, List.setIfInBounds_toArray, List.set_cons_zero, List.set_cons_succ]
        (try dsimp only at hS')
        go_simp
        (try with_reducible rfl)
      -- 1: call { callee := value (func 90), args := #[t25], argTypes := #[24] }
      refine chainP_call (d := (some 26)) (.bool true) rfl rfl (fun w' hS' => ?_) ?_
      · simp only [lookP, allP, Act.put, List.getElem?_cons_zero, List.getElem?_cons_succ, List.setIfInBounds_toArray, List.set_cons_zero, List.set_cons_succ]
        intro K hK
        go_simp
        go_at_call 90
        refine (impl_IsValidGroup gr _).mono ?_
        rintro e u ⟨rfl, hq⟩
        rw [Hhc1.out]
        exact hK.out _ hq
      iterate 2 (refine' chainP_read _ rfl rfl (fun w' hS' => ?_) ?_; rotate_left; · (simp only [lookP, allP, Act.put, List.getElem?_cons_zero, List.getElem?_cons_succ, List.setIfInBounds_toArray, List.set_cons_zero, List.set_cons_succ]; (try dsimp only at hS'); go_simp; (try with_reducible rfl)))
      -- 4: move t1
      refine' chainP_readG (d := (some 29)) _ rfl (fun w' hS' => ?_) ?_; rotate_left
      · simp only [lookP, allP, Act.put, List.getElem?_cons_zero, List.getElem?_cons_succ, List.setIfInBounds_toArray, List.set_cons_zero, List.set_cons_succ]
        refine ⟨by kernel_rfl, ?_⟩
        (try dsimp only at hS')
        go_simp
        (try with_reducible rfl)
      -- 5: call { callee := value (func 99), args := #[t29], argTypes := #[9] }
      refine chainP_callG (d := (some 30)) (.bool false) rfl (fun w' hS' => ?_) ?_
      · simp only [lookP, allP, Act.put, List.getElem?_cons_zero, List.getElem?_cons_succ, List.setIfInBounds_toArray, List.set_cons_zero, List.set_cons_succ]
        refine ⟨by kernel_rfl, ?_⟩
        intro K hK
        go_simp
        go_at_call 99
        refine (impl_isLabel s _ HS3.out).mono ?_
        rintro e u ⟨rfl, rfl⟩
        rw [hc2]
        exact hK.out _ (Below.refl _ _)
      -- 6: unOp Unnot 4 t30
      refine' chainP_readG (d := (some 31)) _ rfl (fun w' hS' => ?_) ?_; rotate_left
      · simp only [lookP, allP, Act.put, List.getElem?_cons_zero, List.getElem?_cons_succ, List.setIfInBounds_toArray, List.set_cons_zero, List.set_cons_succ]
        refine ⟨by kernel_rfl, ?_⟩
        (try dsimp only at hS')
        go_simp
        (try with_reducible rfl)
      iterate 2 (refine' chainP_read _ rfl rfl (fun w' hS' => ?_) ?_; rotate_left; · (simp only [lookP, allP, Act.put, List.getElem?_cons_zero, List.getElem?_cons_succ, List.setIfInBounds_toArray, List.set_cons_zero, List.set_cons_succ]; (try dsimp only at hS'); go_simp; (try with_reducible rfl)))
      -- 9: load 24 t6
      refine chainP_skip (d := (some 34)) rfl (fun w' hS' => ?_) ?_
      · simp only [lookP, allP, Act.put, List.getElem?_cons_zero, List.getElem?_cons_succ, List.setIfInBounds_toArray, List.set_cons_zero, List.set_cons_succ]
        kernel_rfl
      -- 10: move t2
      refine chainP_skip (d := (some 35)) rfl (fun w' hS' => ?_) ?_
      · simp only [lookP, allP, Act.put, List.getElem?_cons_zero, List.getElem?_cons_succ, List.setIfInBounds_toArray, List.set_cons_zero, List.set_cons_succ]
        kernel_rfl
      -- 11: call { callee := value (func 100), args := #[t34, t35], argTypes := #[24, 42] }
      refine chainP_skip (d := (some 36)) rfl (fun w' hS' => ?_) ?_
      · simp only [lookP, allP, Act.put, List.getElem?_cons_zero, List.getElem?_cons_succ, List.setIfInBounds_toArray, List.set_cons_zero, List.set_cons_succ]
        kernel_rfl
      -- 12: unOp Unnot 4 t36
      refine chainP_skip (d := (some 37)) rfl (fun w' hS' => ?_) ?_
      · simp only [lookP, allP, Act.put, List.getElem?_cons_zero, List.getElem?_cons_succ, List.setIfInBounds_toArray, List.set_cons_zero, List.set_cons_succ]
        kernel_rfl
      iterate 2 (refine' chainP_read _ rfl rfl (fun w' hS' => ?_) ?_; rotate_left; · (simp only [lookP, allP, Act.put, List.getElem?_cons_zero, List.getElem?_cons_succ, List.setIfInBounds_toArray, List.set_cons_zero, List.set_cons_succ]; (try dsimp only at hS'); go_simp; (try with_reducible rfl)))
      -- 15: move t3
      refine chainP_skip (d := (some 40)) rfl (fun w' hS' => ?_) ?_
      · simp only [lookP, allP, Act.put, List.getElem?_cons_zero, List.getElem?_cons_succ, List.setIfInBounds_toArray, List.set_cons_zero, List.set_cons_succ]
        kernel_rfl
      -- 16: move t2
      refine chainP_skip (d := (some 41)) rfl (fun w' hS' => ?_) ?_
      · simp only [lookP, allP, Act.put, List.getElem?_cons_zero, List.getElem?_cons_succ, List.setIfInBounds_toArray, List.set_cons_zero, List.set_cons_succ]
        kernel_rfl
      -- 17: call { callee := builtin Builtin.len, args := #[t41], argTypes := #[42] }
      refine chainP_skip (d := (some 42)) rfl (fun w' hS' => ?_) ?_
      · simp only [lookP, allP, Act.put, List.getElem?_cons_zero, List.getElem?_cons_succ, List.setIfInBounds_toArray, List.set_cons_zero, List.set_cons_succ]
        kernel_rfl
      -- 18: binOp Binsub 3 t42 (const (int i64 1)) 3
      refine chainP_skip (d := (some 43)) rfl (fun w' hS' => ?_) ?_
      · simp only [lookP, allP, Act.put, List.getElem?_cons_zero, List.getElem?_cons_succ, List.setIfInBounds_toArray, List.set_cons_zero, List.set_cons_succ]
        kernel_rfl
      -- 19: call { callee := value (func 101), args := #[t40, const (int i64 0), t43], argTypes := #[3, 3, 3] }
      refine chainP_skip (d := (some 44)) rfl (fun w' hS' => ?_) ?_
      · simp only [lookP, allP, Act.put, List.getElem?_cons_zero, List.getElem?_cons_succ, List.setIfInBounds_toArray, List.set_cons_zero, List.set_cons_succ]
        kernel_rfl
      -- 20: unOp Unnot 4 t44
      refine chainP_skip (d := (some 45)) rfl (fun w' hS' => ?_) ?_
      · simp only [lookP, allP, Act.put, List.getElem?_cons_zero, List.getElem?_cons_succ, List.setIfInBounds_toArray, List.set_cons_zero, List.set_cons_succ]
        kernel_rfl
      iterate 2 (refine' chainP_read _ rfl rfl (fun w' hS' => ?_) ?_; rotate_left; · (simp only [lookP, allP, Act.put, List.getElem?_cons_zero, List.getElem?_cons_succ, List.setIfInBounds_toArray, List.set_cons_zero, List.set_cons_succ]; (try dsimp only at hS'); go_simp; (try with_reducible rfl)))
      -- 23: load 24 t6
      refine chainP_skip (d := (some 48)) rfl (fun w' hS' => ?_) ?_
      · simp only [lookP, allP, Act.put, List.getElem?_cons_zero, List.getElem?_cons_succ, List.setIfInBounds_toArray, List.set_cons_zero, List.set_cons_succ]
        kernel_rfl
      -- 24: move t4
      refine chainP_skip (d := (some 49)) rfl (fun w' hS' => ?_) ?_
      · simp only [lookP, allP, Act.put, List.getElem?_cons_zero, List.getElem?_cons_succ, List.setIfInBounds_toArray, List.set_cons_zero, List.set_cons_succ]
        kernel_rfl
      -- 25: call { callee := value (func 71), args := #[t48, t49], argTypes := #[24, 3] }
      refine chainP_skip (d := (some 50)) rfl (fun w' hS' => ?_) ?_
      · simp only [lookP, allP, Act.put, List.getElem?_cons_zero, List.getElem?_cons_succ, List.setIfInBounds_toArray, List.set_cons_zero, List.set_cons_succ]
        kernel_rfl
      -- 26: unOp Unnot 4 t50
      refine chainP_skip (d := (some 51)) rfl (fun w' hS' => ?_) ?_
      · simp only [lookP, allP, Act.put, List.getElem?_cons_zero, List.getElem?_cons_succ, List.setIfInBounds_toArray, List.set_cons_zero, List.set_cons_succ]
        kernel_rfl
      iterate 2 (refine' chainP_read _ rfl rfl (fun w' hS' => ?_) ?_; rotate_left; · (simp only [lookP, allP, Act.put, List.getElem?_cons_zero, List.getElem?_cons_succ, List.setIfInBounds_toArray, List.set_cons_zero, List.set_cons_succ]; (try dsimp only at hS'); go_simp; (try with_reducible rfl)))
      -- 29: move t5
      refine chainP_skip (d := (some 54)) rfl (fun w' hS' => ?_) ?_
      · simp only [lookP, allP, Act.put, List.getElem?_cons_zero, List.getElem?_cons_succ, List.setIfInBounds_toArray, List.set_cons_zero, List.set_cons_succ]
        kernel_rfl
      -- 30: call { callee := builtin Builtin.len, args := #[t54], argTypes := #[43] }
      refine chainP_skip (d := (some 55)) rfl (fun w' hS' => ?_) ?_
      · simp only [lookP, allP, Act.put, List.getElem?_cons_zero, List.getElem?_cons_succ, List.setIfInBounds_toArray, List.set_cons_zero, List.set_cons_succ]
        kernel_rfl
      -- 31: move t2
      refine chainP_skip (d := (some 56)) rfl (fun w' hS' => ?_) ?_
      · simp only [lookP, allP, Act.put, List.getElem?_cons_zero, List.getElem?_cons_succ, List.setIfInBounds_toArray, List.set_cons_zero, List.set_cons_succ]
        kernel_rfl
      -- 32: call { callee := builtin Builtin.len, args := #[t56], argTypes := #[42] }
      refine chainP_skip (d := (some 57)) rfl (fun w' hS' => ?_) ?_
      · simp only [lookP, allP, Act.put, List.getElem?_cons_zero, List.getElem?_cons_succ, List.setIfInBounds_toArray, List.set_cons_zero, List.set_cons_succ]
        kernel_rfl
      -- 33: binOp Binmul 3 (const (int i64 2)) t57 3
      refine chainP_skip (d := (some 58)) rfl (fun w' hS' => ?_) ?_
      · simp only [lookP, allP, Act.put, List.getElem?_cons_zero, List.getElem?_cons_succ, List.setIfInBounds_toArray, List.set_cons_zero, List.set_cons_succ]
        kernel_rfl
      -- 34: binOp Binsub 3 t58 (const (int i64 1)) 3
      refine chainP_skip (d := (some 59)) rfl (fun w' hS' => ?_) ?_
      · simp only [lookP, allP, Act.put, List.getElem?_cons_zero, List.getElem?_cons_succ, List.setIfInBounds_toArray, List.set_cons_zero, List.set_cons_succ]
        kernel_rfl
      -- 35: binOp Binneq 3 t55 t59 3
      refine chainP_skip (d := (some 60)) rfl (fun w' hS' => ?_) ?_
      · simp only [lookP, allP, Act.put, List.getElem?_cons_zero, List.getElem?_cons_succ, List.setIfInBounds_toArray, List.set_cons_zero, List.set_cons_succ]
        kernel_rfl
      iterate 2 (refine' chainP_read _ rfl rfl (fun w' hS' => ?_) ?_; rotate_left; · (simp only [lookP, allP, Act.put, List.getElem?_cons_zero, List.getElem?_cons_succ, List.setIfInBounds_toArray, List.set_cons_zero, List.set_cons_succ]; (try dsimp only at hS'); go_simp; (try with_reducible rfl)))
      -- 38: load 24 t6
      refine chainP_skip (d := (some 63)) rfl (fun w' hS' => ?_) ?_
      · simp only [lookP, allP, Act.put, List.getElem?_cons_zero, List.getElem?_cons_succ, List.setIfInBounds_toArray, List.set_cons_zero, List.set_cons_succ]
        kernel_rfl
      -- 39: move t5
      refine chainP_skip (d := (some 64)) rfl (fun w' hS' => ?_) ?_
      · simp only [lookP, allP, Act.put, List.getElem?_cons_zero, List.getElem?_cons_succ, List.setIfInBounds_toArray, List.set_cons_zero, List.set_cons_succ]
        kernel_rfl
      -- 40: call { callee := value (func 102), args := #[t63, t64], argTypes := #[24, 43] }
      refine chainP_skip (d := (some 65)) rfl (fun w' hS' => ?_) ?_
      · simp only [lookP, allP, Act.put, List.getElem?_cons_zero, List.getElem?_cons_succ, List.setIfInBounds_toArray, List.set_cons_zero, List.set_cons_succ]
        kernel_rfl
      -- 41: unOp Unnot 4 t65
      refine chainP_skip (d := (some 66)) rfl (fun w' hS' => ?_) ?_
      · simp only [lookP, allP, Act.put, List.getElem?_cons_zero, List.getElem?_cons_succ, List.setIfInBounds_toArray, List.set_cons_zero, List.set_cons_succ]
        kernel_rfl
      iterate 2 (refine' chainP_read _ rfl rfl (fun w' hS' => ?_) ?_; rotate_left; · (simp only [lookP, allP, Act.put, List.getElem?_cons_zero, List.getElem?_cons_succ, List.setIfInBounds_toArray, List.set_cons_zero, List.set_cons_succ]; (try dsimp only at hS'); go_simp; (try with_reducible rfl)))
      -- 44: load 24 t6
      refine chainP_skip (d := (some 69)) rfl (fun w' hS' => ?_) ?_
      · simp only [lookP, allP, Act.put, List.getElem?_cons_zero, List.getElem?_cons_succ, List.setIfInBounds_toArray, List.set_cons_zero, List.set_cons_succ]
        kernel_rfl
      -- 45: move t2
      refine chainP_skip (d := (some 70)) rfl (fun w' hS' => ?_) ?_
      · simp only [lookP, allP, Act.put, List.getElem?_cons_zero, List.getElem?_cons_succ, List.setIfInBounds_toArray, List.set_cons_zero, List.set_cons_succ]
        kernel_rfl
      -- 46: move t3
      refine chainP_skip (d := (some 71)) rfl (fun w' hS' => ?_) ?_
      · simp only [lookP, allP, Act.put, List.getElem?_cons_zero, List.getElem?_cons_succ, List.setIfInBounds_toArray, List.set_cons_zero, List.set_cons_succ]
        kernel_rfl
      -- 47: indexAddr 42 t70 t71
      refine chainP_skip (d := (some 72)) rfl (fun w' hS' => ?_) ?_
      · simp only [lookP, allP, Act.put, List.getElem?_cons_zero, List.getElem?_cons_succ, List.setIfInBounds_toArray, List.set_cons_zero, List.set_cons_succ]
        kernel_rfl
      -- 48: load 31 t72
      refine chainP_skip (d := (some 73)) rfl (fun w' hS' => ?_) ?_
      · simp only [lookP, allP, Act.put, List.getElem?_cons_zero, List.getElem?_cons_succ, List.setIfInBounds_toArray, List.set_cons_zero, List.set_cons_succ]
        kernel_rfl
      -- 49: move t4
      refine chainP_skip (d := (some 74)) rfl (fun w' hS' => ?_) ?_
      · simp only [lookP, allP, Act.put, List.getElem?_cons_zero, List.getElem?_cons_succ, List.setIfInBounds_toArray, List.set_cons_zero, List.set_cons_succ]
        kernel_rfl
      -- 50: call { callee := value (func 91), args := #[t69, t73, t74], argTypes := #[24, 31, 3] }
      refine chainP_skip (d := (some 75)) rfl (fun w' hS' => ?_) ?_
      · simp only [lookP, allP, Act.put, List.getElem?_cons_zero, List.getElem?_cons_succ, List.setIfInBounds_toArray, List.set_cons_zero, List.set_cons_succ]
        kernel_rfl
      -- 51: unOp Unnot 4 t75
      refine chainP_skip (d := (some 76)) rfl (fun w' hS' => ?_) ?_
      · simp only [lookP, allP, Act.put, List.getElem?_cons_zero, List.getElem?_cons_succ, List.setIfInBounds_toArray, List.set_cons_zero, List.set_cons_succ]
        kernel_rfl
      -- 52: pick t68 (const (bool true)) t76
      refine' chainP_read (d := (some 77)) _ rfl rfl (fun w' hS' => ?_) ?_; rotate_left
      · simp only [lookP, allP, Act.put, List.getElem?_cons_zero, List.getElem?_cons_succ, List.setIfInBounds_toArray, List.set_cons_zero, List.set_cons_succ]
        (try dsimp only at hS')
        go_simp
        (try with_reducible rfl)
      refine chainP_nil (fun u1 hS' => ?_)
      simp only [allP, Act.put, List.setIfInBounds_toArray, List.set_cons_zero, List.set_cons_succ]
      have hq1 := hS'.1
      clear hS'
      replace hc := Below.next hc hq1
      clear hq1 c0_0 c0_1 c0_2
      obtain ⟨c0_0, c0_1, c0_2⟩ := HCC.out _ hc
      go_wp2_with fail
      refine NoPanic.normal ?_
      have HRE1 := Lib.hid (HR1.out.below hc)
      clear HR1
      have HBE := Lib.hid (HB.out.trans (hc.mono HB.out.size))
      have r1_0 := HRE1.out.cell (i := 0) rfl
      have r1_1 := HRE1.out.cell (i := 1) rfl
      have r1_2 := HRE1.out.cell (i := 2) rfl
      have fr1 := fun j => HRE1.out.frozen j
      go_wp2_with fail
      have HRF := Lib.hid (((HRE1.out.set 0 ((.slice none 0 0))).set 1 ((.slice none 0 0))).set 2 ((.slice none 0 0)))
      have HBF := Lib.hid (((HBE.out.setCell (p := ⟨w.heap.size + 1, 0, none⟩) (by show w.heap.size ≤ w.heap.size + 1; omega) ((.slice none 0 0))).setCell (p := ⟨w.heap.size + 1, 1, none⟩) (by show w.heap.size ≤ w.heap.size + 1; omega) ((.slice none 0 0))).setCell (p := ⟨w.heap.size + 1, 2, none⟩) (by show w.heap.size ≤ w.heap.size + 1; omega) ((.slice none 0 0)))
      clear r1_0 r1_1 r1_2 fr1
      have r1_0 := HRF.out.cell (i := 0) rfl
      have r1_1 := HRF.out.cell (i := 1) rfl
      have r1_2 := HRF.out.cell (i := 2) rfl
      try (go_wp2_with fail)
      have HVB : Hid (ooB gr s l k x cs = false) := by unfold Hid; simp [ooB, Hhc1.out, hc2]
      have HPR : Hid (ooF gr s l k x cs = ⟨[], [], []⟩) := by unfold Hid ooF; rw [if_neg (by rw [HVB.out]; simp)]
      refine bodyPost_ret (v := .tuple #[.agg #[(.slice none 0 0), (.slice none 0 0), (.slice none 0 0)], .bool false]) (by simp [results, Try.results20, go_sem, r1_0, r1_1, r1_2]) rfl ⟨(by rw [HVB.out, HPR.out]; exact RetP.mk (OwnI.nil _ _) (OwnI.nil _ _) (OwnI.nil _ _)), HBF.out⟩
    | true =>
      have HS : Hid (s.size ≤ 40) := by unfold Hid; exact of_decide_eq_true hc2
      cases hc3 : stB gr l with
      | false =>
        have Hhc3 := Lib.hid hc3
        clear hc3
        try (go_wp2_with fail)
        refine wp_region_noPanic ?_
        refine wp_region_P (fun w' => w'.cell? ⟨w.heap.size, 0, none⟩ = some (.int .i64 gr.p) ∧ w'.cell? ⟨w.heap.size, 1, none⟩ = some (.int .i64 gr.q) ∧ w'.cell? ⟨w.heap.size, 2, none⟩ = some (.int .i64 gr.g)) 55 [(0, []), (1, [0]), (2, [0]), (3, [0]), (4, [0]), (5, [0, 1]), (6, [0, 2]), (7, [3, 0]), (8, [0]), (9, [0]), (10, [1]), (11, [1, 0, 2]), (12, [0, 3]), (13, [4, 0]), (14, [0]), (15, [0]), (16, [1]), (17, [0, 2]), (18, [0, 3]), (19, [3, 0, 4]), (20, [0, 5]), (21, [6, 0]), (22, [0]), (23, [0]), (24, [1]), (25, [1, 0, 2]), (26, [0, 3]), (27, [4, 0]), (28, [0]), (29, [0]), (30, [0, 1]), (31, [2]), (32, [0, 3]), (33, [0, 4]), (34, [0, 5]), (35, [4, 0, 6]), (36, [7, 0]), (37, [0]), (38, [0]), (39, [1]), (40, [1, 0, 2]), (41, [0, 3]), (42, [4, 0]), (43, [0]), (44, [0]), (45, [1]), (46, [2]), (47, [1, 0, 3]), (48, [0, 4]), (49, [5]), (50, [5, 1, 0, 6]), (51, [0, 7]), (52, [8, 0])] [] (by kernel_rfl) (by kernel_rfl) (by kernel_rfl) rfl (fun _ _ _ _ h => h) (fun w' h => ⟨box_at c0_0 h, box_at c0_1 h, box_at c0_2 h⟩) ?_
        simp only [pickP, pickN, List.getElem?_cons_zero, List.getElem?_cons_succ]
        -- 0: load 24 t6
        refine' chainP_read (d := (some 25)) _ rfl rfl (fun w' hS' => ?_) ?_; rotate_left
        · simp only [lookP, allP, Act.put, List.getElem?_cons_zero, List.getElem?_cons_succ, List.setIfInBounds_toArray, List.set_cons_zero, List.set_cons_succ]
          (try dsimp only at hS')
          go_simp
          (try with_reducible rfl)
        -- 1: call { callee := value (func 90), args := #[t25], argTypes := #[24] }
        refine chainP_call (d := (some 26)) (.bool true) rfl rfl (fun w' hS' => ?_) ?_
        · simp only [lookP, allP, Act.put, List.getElem?_cons_zero, List.getElem?_cons_succ, List.setIfInBounds_toArray, List.set_cons_zero, List.set_cons_succ]
          intro K hK
          go_simp
          go_at_call 90
          refine (impl_IsValidGroup gr _).mono ?_
          rintro e u ⟨rfl, hq⟩
          rw [Hhc1.out]
          exact hK.out _ hq
        iterate 2 (refine' chainP_read _ rfl rfl (fun w' hS' => ?_) ?_; rotate_left; · (simp only [lookP, allP, Act.put, List.getElem?_cons_zero, List.getElem?_cons_succ, List.setIfInBounds_toArray, List.set_cons_zero, List.set_cons_succ]; (try dsimp only at hS'); go_simp; (try with_reducible rfl)))
        -- 4: move t1
        refine' chainP_readG (d := (some 29)) _ rfl (fun w' hS' => ?_) ?_; rotate_left
        · simp only [lookP, allP, Act.put, List.getElem?_cons_zero, List.getElem?_cons_succ, List.setIfInBounds_toArray, List.set_cons_zero, List.set_cons_succ]
          refine ⟨by kernel_rfl, ?_⟩
          (try dsimp only at hS')
          go_simp
          (try with_reducible rfl)
        -- 5: call { callee := value (func 99), args := #[t29], argTypes := #[9] }
        refine chainP_callG (d := (some 30)) (.bool true) rfl (fun w' hS' => ?_) ?_
        · simp only [lookP, allP, Act.put, List.getElem?_cons_zero, List.getElem?_cons_succ, List.setIfInBounds_toArray, List.set_cons_zero, List.set_cons_succ]
          refine ⟨by kernel_rfl, ?_⟩
          intro K hK
          go_simp
          go_at_call 99
          refine (impl_isLabel s _ HS3.out).mono ?_
          rintro e u ⟨rfl, rfl⟩
          rw [hc2]
          exact hK.out _ (Below.refl _ _)
        -- 6: unOp Unnot 4 t30
        refine' chainP_readG (d := (some 31)) _ rfl (fun w' hS' => ?_) ?_; rotate_left
        · simp only [lookP, allP, Act.put, List.getElem?_cons_zero, List.getElem?_cons_succ, List.setIfInBounds_toArray, List.set_cons_zero, List.set_cons_succ]
          refine ⟨by kernel_rfl, ?_⟩
          (try dsimp only at hS')
          go_simp
          (try with_reducible rfl)
        iterate 2 (refine' chainP_read _ rfl rfl (fun w' hS' => ?_) ?_; rotate_left; · (simp only [lookP, allP, Act.put, List.getElem?_cons_zero, List.getElem?_cons_succ, List.setIfInBounds_toArray, List.set_cons_zero, List.set_cons_succ]; (try dsimp only at hS'); go_simp; (try with_reducible rfl)))
        -- 9: load 24 t6
        refine' chainP_readG (d := (some 34)) _ rfl (fun w' hS' => ?_) ?_; rotate_left
        · simp only [lookP, allP, Act.put, List.getElem?_cons_zero, List.getElem?_cons_succ, List.setIfInBounds_toArray, List.set_cons_zero, List.set_cons_succ]
          refine ⟨by kernel_rfl, ?_⟩
          (try dsimp only at hS')
          go_simp
          (try with_reducible rfl)
        -- 10: move t2
        refine' chainP_readG (d := (some 35)) _ rfl (fun w' hS' => ?_) ?_; rotate_left
        · simp only [lookP, allP, Act.put, List.getElem?_cons_zero, List.getElem?_cons_succ, List.setIfInBounds_toArray, List.set_cons_zero, List.set_cons_succ]
          refine ⟨by kernel_rfl, ?_⟩
          (try dsimp only at hS')
          go_simp
          (try with_reducible rfl)
        -- 11: call { callee := value (func 100), args := #[t34, t35], argTypes := #[24, 42] }
        refine chainP_callG (d := (some 36)) (.bool false) rfl (fun w' hS' => ?_) ?_
        · simp only [lookP, allP, Act.put, List.getElem?_cons_zero, List.getElem?_cons_succ, List.setIfInBounds_toArray, List.set_cons_zero, List.set_cons_succ]
          refine ⟨by kernel_rfl, ?_⟩
          intro K hK
          go_simp
          go_at_call 100
          refine (impl_areStatements gr _ l _ HG.out ((Hev.out.below (HB.out.trans (hc.mono HB.out.size))).below hS'.1)).mono ?_
          rintro e u ⟨rfl, hq⟩
          rw [Hhc3.out]
          exact hK.out _ hq
        -- 12: unOp Unnot 4 t36
        refine' chainP_readG (d := (some 37)) _ rfl (fun w' hS' => ?_) ?_; rotate_left
        · simp only [lookP, allP, Act.put, List.getElem?_cons_zero, List.getElem?_cons_succ, List.setIfInBounds_toArray, List.set_cons_zero, List.set_cons_succ]
          refine ⟨by kernel_rfl, ?_⟩
          (try dsimp only at hS')
          go_simp
          (try with_reducible rfl)
        iterate 2 (refine' chainP_read _ rfl rfl (fun w' hS' => ?_) ?_; rotate_left; · (simp only [lookP, allP, Act.put, List.getElem?_cons_zero, List.getElem?_cons_succ, List.setIfInBounds_toArray, List.set_cons_zero, List.set_cons_succ]; (try dsimp only at hS'); go_simp; (try with_reducible rfl)))
        -- 15: move t3
        refine chainP_skip (d := (some 40)) rfl (fun w' hS' => ?_) ?_
        · simp only [lookP, allP, Act.put, List.getElem?_cons_zero, List.getElem?_cons_succ, List.setIfInBounds_toArray, List.set_cons_zero, List.set_cons_succ]
          kernel_rfl
        -- 16: move t2
        refine chainP_skip (d := (some 41)) rfl (fun w' hS' => ?_) ?_
        · simp only [lookP, allP, Act.put, List.getElem?_cons_zero, List.getElem?_cons_succ, List.setIfInBounds_toArray, List.set_cons_zero, List.set_cons_succ]
          kernel_rfl
        -- 17: call { callee := builtin Builtin.len, args := #[t41], argTypes := #[42] }
        refine chainP_skip (d := (some 42)) rfl (fun w' hS' => ?_) ?_
        · simp only [lookP, allP, Act.put, List.getElem?_cons_zero, List.getElem?_cons_succ, List.setIfInBounds_toArray, List.set_cons_zero, List.set_cons_succ]
          kernel_rfl
        -- 18: binOp Binsub 3 t42 (const (int i64 1)) 3
        refine chainP_skip (d := (some 43)) rfl (fun w' hS' => ?_) ?_
        · simp only [lookP, allP, Act.put, List.getElem?_cons_zero, List.getElem?_cons_succ, List.setIfInBounds_toArray, List.set_cons_zero, List.set_cons_succ]
          kernel_rfl
        -- 19: call { callee := value (func 101), args := #[t40, const (int i64 0), t43], argTypes := #[3, 3, 3] }
        refine chainP_skip (d := (some 44)) rfl (fun w' hS' => ?_) ?_
        · simp only [lookP, allP, Act.put, List.getElem?_cons_zero, List.getElem?_cons_succ, List.setIfInBounds_toArray, List.set_cons_zero, List.set_cons_succ]
          kernel_rfl
        -- 20: unOp Unnot 4 t44
        refine chainP_skip (d := (some 45)) rfl (fun w' hS' => ?_) ?_
        · simp only [lookP, allP, Act.put, List.getElem?_cons_zero, List.getElem?_cons_succ, List.setIfInBounds_toArray, List.set_cons_zero, List.set_cons_succ]
          kernel_rfl
        iterate 2 (refine' chainP_read _ rfl rfl (fun w' hS' => ?_) ?_; rotate_left; · (simp only [lookP, allP, Act.put, List.getElem?_cons_zero, List.getElem?_cons_succ, List.setIfInBounds_toArray, List.set_cons_zero, List.set_cons_succ]; (try dsimp only at hS'); go_simp; (try with_reducible rfl)))
        -- 23: load 24 t6
        refine chainP_skip (d := (some 48)) rfl (fun w' hS' => ?_) ?_
        · simp only [lookP, allP, Act.put, List.getElem?_cons_zero, List.getElem?_cons_succ, List.setIfInBounds_toArray, List.set_cons_zero, List.set_cons_succ]
          kernel_rfl
        -- 24: move t4
        refine chainP_skip (d := (some 49)) rfl (fun w' hS' => ?_) ?_
        · simp only [lookP, allP, Act.put, List.getElem?_cons_zero, List.getElem?_cons_succ, List.setIfInBounds_toArray, List.set_cons_zero, List.set_cons_succ]
          kernel_rfl
        -- 25: call { callee := value (func 71), args := #[t48, t49], argTypes := #[24, 3] }
        refine chainP_skip (d := (some 50)) rfl (fun w' hS' => ?_) ?_
        · simp only [lookP, allP, Act.put, List.getElem?_cons_zero, List.getElem?_cons_succ, List.setIfInBounds_toArray, List.set_cons_zero, List.set_cons_succ]
          kernel_rfl
        -- 26: unOp Unnot 4 t50
        refine chainP_skip (d := (some 51)) rfl (fun w' hS' => ?_) ?_
        · simp only [lookP, allP, Act.put, List.getElem?_cons_zero, List.getElem?_cons_succ, List.setIfInBounds_toArray, List.set_cons_zero, List.set_cons_succ]
          kernel_rfl
        iterate 2 (refine' chainP_read _ rfl rfl (fun w' hS' => ?_) ?_; rotate_left; · (simp only [lookP, allP, Act.put, List.getElem?_cons_zero, List.getElem?_cons_succ, List.setIfInBounds_toArray, List.set_cons_zero, List.set_cons_succ]; (try dsimp only at hS'); go_simp; (try with_reducible rfl)))
        -- 29: move t5
        refine chainP_skip (d := (some 54)) rfl (fun w' hS' => ?_) ?_
        · simp only [lookP, allP, Act.put, List.getElem?_cons_zero, List.getElem?_cons_succ, List.setIfInBounds_toArray, List.set_cons_zero, List.set_cons_succ]
          kernel_rfl
        -- 30: call { callee := builtin Builtin.len, args := #[t54], argTypes := #[43] }
        refine chainP_skip (d := (some 55)) rfl (fun w' hS' => ?_) ?_
        · simp only [lookP, allP, Act.put, List.getElem?_cons_zero, List.getElem?_cons_succ, List.setIfInBounds_toArray, List.set_cons_zero, List.set_cons_succ]
          kernel_rfl
        -- 31: move t2
        refine chainP_skip (d := (some 56)) rfl (fun w' hS' => ?_) ?_
        · simp only [lookP, allP, Act.put, List.getElem?_cons_zero, List.getElem?_cons_succ, List.setIfInBounds_toArray, List.set_cons_zero, List.set_cons_succ]
          kernel_rfl
        -- 32: call { callee := builtin Builtin.len, args := #[t56], argTypes := #[42] }
        refine chainP_skip (d := (some 57)) rfl (fun w' hS' => ?_) ?_
        · simp only [lookP, allP, Act.put, List.getElem?_cons_zero, List.getElem?_cons_succ, List.setIfInBounds_toArray, List.set_cons_zero, List.set_cons_succ]
          kernel_rfl
        -- 33: binOp Binmul 3 (const (int i64 2)) t57 3
        refine chainP_skip (d := (some 58)) rfl (fun w' hS' => ?_) ?_
        · simp only [lookP, allP, Act.put, List.getElem?_cons_zero, List.getElem?_cons_succ, List.setIfInBounds_toArray, List.set_cons_zero, List.set_cons_succ]
          kernel_rfl
        -- 34: binOp Binsub 3 t58 (const (int i64 1)) 3
        refine chainP_skip (d := (some 59)) rfl (fun w' hS' => ?_) ?_
        · simp only [lookP, allP, Act.put, List.getElem?_cons_zero, List.getElem?_cons_succ, List.setIfInBounds_toArray, List.set_cons_zero, List.set_cons_succ]
          kernel_rfl
        -- 35: binOp Binneq 3 t55 t59 3
        refine chainP_skip (d := (some 60)) rfl (fun w' hS' => ?_) ?_
        · simp only [lookP, allP, Act.put, List.getElem?_cons_zero, List.getElem?_cons_succ, List.setIfInBounds_toArray, List.set_cons_zero, List.set_cons_succ]
          kernel_rfl
        iterate 2 (refine' chainP_read _ rfl rfl (fun w' hS' => ?_) ?_; rotate_left; · (simp only [lookP, allP, Act.put, List.getElem?_cons_zero, List.getElem?_cons_succ, List.setIfInBounds_toArray, List.set_cons_zero, List.set_cons_succ]; (try dsimp only at hS'); go_simp; (try with_reducible rfl)))
        -- 38: load 24 t6
        refine chainP_skip (d := (some 63)) rfl (fun w' hS' => ?_) ?_
        · simp only [lookP, allP, Act.put, List.getElem?_cons_zero, List.getElem?_cons_succ, List.setIfInBounds_toArray, List.set_cons_zero, List.set_cons_succ]
          kernel_rfl
        -- 39: move t5
        refine chainP_skip (d := (some 64)) rfl (fun w' hS' => ?_) ?_
        · simp only [lookP, allP, Act.put, List.getElem?_cons_zero, List.getElem?_cons_succ, List.setIfInBounds_toArray, List.set_cons_zero, List.set_cons_succ]
          kernel_rfl
        -- 40: call { callee := value (func 102), args := #[t63, t64], argTypes := #[24, 43] }
        refine chainP_skip (d := (some 65)) rfl (fun w' hS' => ?_) ?_
        · simp only [lookP, allP, Act.put, List.getElem?_cons_zero, List.getElem?_cons_succ, List.setIfInBounds_toArray, List.set_cons_zero, List.set_cons_succ]
          kernel_rfl
        -- 41: unOp Unnot 4 t65
        refine chainP_skip (d := (some 66)) rfl (fun w' hS' => ?_) ?_
        · simp only [lookP, allP, Act.put, List.getElem?_cons_zero, List.getElem?_cons_succ, List.setIfInBounds_toArray, List.set_cons_zero, List.set_cons_succ]
          kernel_rfl
        iterate 2 (refine' chainP_read _ rfl rfl (fun w' hS' => ?_) ?_; rotate_left; · (simp only [lookP, allP, Act.put, List.getElem?_cons_zero, List.getElem?_cons_succ, List.setIfInBounds_toArray, List.set_cons_zero, List.set_cons_succ]; (try dsimp only at hS'); go_simp; (try with_reducible rfl)))
        -- 44: load 24 t6
        refine chainP_skip (d := (some 69)) rfl (fun w' hS' => ?_) ?_
        · simp only [lookP, allP, Act.put, List.getElem?_cons_zero, List.getElem?_cons_succ, List.setIfInBounds_toArray, List.set_cons_zero, List.set_cons_succ]
          kernel_rfl
        -- 45: move t2
        refine chainP_skip (d := (some 70)) rfl (fun w' hS' => ?_) ?_
        · simp only [lookP, allP, Act.put, List.getElem?_cons_zero, List.getElem?_cons_succ, List.setIfInBounds_toArray, List.set_cons_zero, List.set_cons_succ]
          kernel_rfl
        -- 46: move t3
        refine chainP_skip (d := (some 71)) rfl (fun w' hS' => ?_) ?_
        · simp only [lookP, allP, Act.put, List.getElem?_cons_zero, List.getElem?_cons_succ, List.setIfInBounds_toArray, List.set_cons_zero, List.set_cons_succ]
          kernel_rfl
        -- 47: indexAddr 42 t70 t71
        refine chainP_skip (d := (some 72)) rfl (fun w' hS' => ?_) ?_
        · simp only [lookP, allP, Act.put, List.getElem?_cons_zero, List.getElem?_cons_succ, List.setIfInBounds_toArray, List.set_cons_zero, List.set_cons_succ]
          kernel_rfl
        -- 48: load 31 t72
        refine chainP_skip (d := (some 73)) rfl (fun w' hS' => ?_) ?_
        · simp only [lookP, allP, Act.put, List.getElem?_cons_zero, List.getElem?_cons_succ, List.setIfInBounds_toArray, List.set_cons_zero, List.set_cons_succ]
          kernel_rfl
        -- 49: move t4
        refine chainP_skip (d := (some 74)) rfl (fun w' hS' => ?_) ?_
        · simp only [lookP, allP, Act.put, List.getElem?_cons_zero, List.getElem?_cons_succ, List.setIfInBounds_toArray, List.set_cons_zero, List.set_cons_succ]
          kernel_rfl
        -- 50: call { callee := value (func 91), args := #[t69, t73, t74], argTypes := #[24, 31, 3] }
        refine chainP_skip (d := (some 75)) rfl (fun w' hS' => ?_) ?_
        · simp only [lookP, allP, Act.put, List.getElem?_cons_zero, List.getElem?_cons_succ, List.setIfInBounds_toArray, List.set_cons_zero, List.set_cons_succ]
          kernel_rfl
        -- 51: unOp Unnot 4 t75
        refine chainP_skip (d := (some 76)) rfl (fun w' hS' => ?_) ?_
        · simp only [lookP, allP, Act.put, List.getElem?_cons_zero, List.getElem?_cons_succ, List.setIfInBounds_toArray, List.set_cons_zero, List.set_cons_succ]
          kernel_rfl
        -- 52: pick t68 (const (bool true)) t76
        refine' chainP_read (d := (some 77)) _ rfl rfl (fun w' hS' => ?_) ?_; rotate_left
        · simp only [lookP, allP, Act.put, List.getElem?_cons_zero, List.getElem?_cons_succ, List.setIfInBounds_toArray, List.set_cons_zero, List.set_cons_succ]
          (try dsimp only at hS')
          go_simp
          (try with_reducible rfl)
        refine chainP_nil (fun u1 hS' => ?_)
        simp only [allP, Act.put, List.setIfInBounds_toArray, List.set_cons_zero, List.set_cons_succ]
        have hq1 := hS'.1
        clear hS'
        replace hc := Below.next hc hq1
        clear hq1 c0_0 c0_1 c0_2
        obtain ⟨c0_0, c0_1, c0_2⟩ := HCC.out _ hc
        go_wp2_with fail
        refine NoPanic.normal ?_
        have HRE1 := Lib.hid (HR1.out.below hc)
        clear HR1
        have HBE := Lib.hid (HB.out.trans (hc.mono HB.out.size))
        have r1_0 := HRE1.out.cell (i := 0) rfl
        have r1_1 := HRE1.out.cell (i := 1) rfl
        have r1_2 := HRE1.out.cell (i := 2) rfl
        have fr1 := fun j => HRE1.out.frozen j
        go_wp2_with fail
        have HRF := Lib.hid (((HRE1.out.set 0 ((.slice none 0 0))).set 1 ((.slice none 0 0))).set 2 ((.slice none 0 0)))
        have HBF := Lib.hid (((HBE.out.setCell (p := ⟨w.heap.size + 1, 0, none⟩) (by show w.heap.size ≤ w.heap.size + 1; omega) ((.slice none 0 0))).setCell (p := ⟨w.heap.size + 1, 1, none⟩) (by show w.heap.size ≤ w.heap.size + 1; omega) ((.slice none 0 0))).setCell (p := ⟨w.heap.size + 1, 2, none⟩) (by show w.heap.size ≤ w.heap.size + 1; omega) ((.slice none 0 0)))
        clear r1_0 r1_1 r1_2 fr1
        have r1_0 := HRF.out.cell (i := 0) rfl
        have r1_1 := HRF.out.cell (i := 1) rfl
        have r1_2 := HRF.out.cell (i := 2) rfl
        try (go_wp2_with fail)
        have HVB : Hid (ooB gr s l k x cs = false) := by unfold Hid; simp [ooB, Hhc1.out, hc2, Hhc3.out]
        have HPR : Hid (ooF gr s l k x cs = ⟨[], [], []⟩) := by unfold Hid ooF; rw [if_neg (by rw [HVB.out]; simp)]
        refine bodyPost_ret (v := .tuple #[.agg #[(.slice none 0 0), (.slice none 0 0), (.slice none 0 0)], .bool false]) (by simp [results, Try.results20, go_sem, r1_0, r1_1, r1_2]) rfl ⟨(by rw [HVB.out, HPR.out]; exact RetP.mk (OwnI.nil _ _) (OwnI.nil _ _) (OwnI.nil _ _)), HBF.out⟩
      | true =>
        have HL : Hid (stB gr l = true) := hc3
        have HN9 := Lib.hid (stB_len HL.out)
        have hw1 : IntKind.i64.wrap ((evn : Int) - 1) = (evn : Int) - 1 := IntWalk.i64_in _ (by have := HN9.out; have := Eev.out; omega)
        have hw2 : IntKind.i64.wrap (2 * (evn : Int)) = 2 * (evn : Int) := IntWalk.i64_in _ (by have := HN9.out; have := Eev.out; omega)
        have hw3 : IntKind.i64.wrap (2 * (evn : Int) - 1) = 2 * (evn : Int) - 1 := IntWalk.i64_in _ (by have := HN9.out; have := Eev.out; omega)
        have Hhc3 := Lib.hid hc3
        clear hc3
        cases hc4 : decide (0 ≤ k ∧ k ≤ ((evn : Int) - 1)) with
        | false =>
          have HK3d : Hid (decide (0 ≤ k ∧ k ≤ (l.length : Int) - 1) = false) := by have q := hc4; rw [decide_eq_false_iff_not] at q; exact decide_eq_false (by have := Eev.out; omega)
          try (go_wp2_with fail)
          refine wp_region_noPanic ?_
          refine wp_region_P (fun w' => w'.cell? ⟨w.heap.size, 0, none⟩ = some (.int .i64 gr.p) ∧ w'.cell? ⟨w.heap.size, 1, none⟩ = some (.int .i64 gr.q) ∧ w'.cell? ⟨w.heap.size, 2, none⟩ = some (.int .i64 gr.g)) 55 [(0, []), (1, [0]), (2, [0]), (3, [0]), (4, [0]), (5, [0, 1]), (6, [0, 2]), (7, [3, 0]), (8, [0]), (9, [0]), (10, [1]), (11, [1, 0, 2]), (12, [0, 3]), (13, [4, 0]), (14, [0]), (15, [0]), (16, [1]), (17, [0, 2]), (18, [0, 3]), (19, [3, 0, 4]), (20, [0, 5]), (21, [6, 0]), (22, [0]), (23, [0]), (24, [1]), (25, [1, 0, 2]), (26, [0, 3]), (27, [4, 0]), (28, [0]), (29, [0]), (30, [0, 1]), (31, [2]), (32, [0, 3]), (33, [0, 4]), (34, [0, 5]), (35, [4, 0, 6]), (36, [7, 0]), (37, [0]), (38, [0]), (39, [1]), (40, [1, 0, 2]), (41, [0, 3]), (42, [4, 0]), (43, [0]), (44, [0]), (45, [1]), (46, [2]), (47, [1, 0, 3]), (48, [0, 4]), (49, [5]), (50, [5, 1, 0, 6]), (51, [0, 7]), (52, [8, 0])] [] (by kernel_rfl) (by kernel_rfl) (by kernel_rfl) rfl (fun _ _ _ _ h => h) (fun w' h => ⟨box_at c0_0 h, box_at c0_1 h, box_at c0_2 h⟩) ?_
          simp only [pickP, pickN, List.getElem?_cons_zero, List.getElem?_cons_succ]
          -- 0: load 24 t6
          refine' chainP_read (d := (some 25)) _ rfl rfl (fun w' hS' => ?_) ?_; rotate_left
          · simp only [lookP, allP, Act.put, List.getElem?_cons_zero, List.getElem?_cons_succ, List.setIfInBounds_toArray, List.set_cons_zero, List.set_cons_succ]
            (try dsimp only at hS')
            go_simp
            (try with_reducible rfl)
          -- 1: call { callee := value (func 90), args := #[t25], argTypes := #[24] }
          refine chainP_call (d := (some 26)) (.bool true) rfl rfl (fun w' hS' => ?_) ?_
          · simp only [lookP, allP, Act.put, List.getElem?_cons_zero, List.getElem?_cons_succ, List.setIfInBounds_toArray, List.set_cons_zero, List.set_cons_succ]
            intro K hK
            go_simp
            go_at_call 90
            refine (impl_IsValidGroup gr _).mono ?_
            rintro e u ⟨rfl, hq⟩
            rw [Hhc1.out]
            exact hK.out _ hq
          iterate 2 (refine' chainP_read _ rfl rfl (fun w' hS' => ?_) ?_; rotate_left; · (simp only [lookP, allP, Act.put, List.getElem?_cons_zero, List.getElem?_cons_succ, List.setIfInBounds_toArray, List.set_cons_zero, List.set_cons_succ]; (try dsimp only at hS'); go_simp; (try with_reducible rfl)))
          -- 4: move t1
          refine' chainP_readG (d := (some 29)) _ rfl (fun w' hS' => ?_) ?_; rotate_left
          · simp only [lookP, allP, Act.put, List.getElem?_cons_zero, List.getElem?_cons_succ, List.setIfInBounds_toArray, List.set_cons_zero, List.set_cons_succ]
            refine ⟨by kernel_rfl, ?_⟩
            (try dsimp only at hS')
            go_simp
            (try with_reducible rfl)
          -- 5: call { callee := value (func 99), args := #[t29], argTypes := #[9] }
          refine chainP_callG (d := (some 30)) (.bool true) rfl (fun w' hS' => ?_) ?_
          · simp only [lookP, allP, Act.put, List.getElem?_cons_zero, List.getElem?_cons_succ, List.setIfInBounds_toArray, List.set_cons_zero, List.set_cons_succ]
            refine ⟨by kernel_rfl, ?_⟩
            intro K hK
            go_simp
            go_at_call 99
            refine (impl_isLabel s _ HS3.out).mono ?_
            rintro e u ⟨rfl, rfl⟩
            rw [hc2]
            exact hK.out _ (Below.refl _ _)
          -- 6: unOp Unnot 4 t30
          refine' chainP_readG (d := (some 31)) _ rfl (fun w' hS' => ?_) ?_; rotate_left
          · simp only [lookP, allP, Act.put, List.getElem?_cons_zero, List.getElem?_cons_succ, List.setIfInBounds_toArray, List.set_cons_zero, List.set_cons_succ]
            refine ⟨by kernel_rfl, ?_⟩
            (try dsimp only at hS')
            go_simp
            (try with_reducible rfl)
          iterate 2 (refine' chainP_read _ rfl rfl (fun w' hS' => ?_) ?_; rotate_left; · (simp only [lookP, allP, Act.put, List.getElem?_cons_zero, List.getElem?_cons_succ, List.setIfInBounds_toArray, List.set_cons_zero, List.set_cons_succ]; (try dsimp only at hS'); go_simp; (try with_reducible rfl)))
          -- 9: load 24 t6
          refine' chainP_readG (d := (some 34)) _ rfl (fun w' hS' => ?_) ?_; rotate_left
          · simp only [lookP, allP, Act.put, List.getElem?_cons_zero, List.getElem?_cons_succ, List.setIfInBounds_toArray, List.set_cons_zero, List.set_cons_succ]
            refine ⟨by kernel_rfl, ?_⟩
            (try dsimp only at hS')
            go_simp
            (try with_reducible rfl)
          -- 10: move t2
          refine' chainP_readG (d := (some 35)) _ rfl (fun w' hS' => ?_) ?_; rotate_left
          · simp only [lookP, allP, Act.put, List.getElem?_cons_zero, List.getElem?_cons_succ, List.setIfInBounds_toArray, List.set_cons_zero, List.set_cons_succ]
            refine ⟨by kernel_rfl, ?_⟩
            (try dsimp only at hS')
            go_simp
            (try with_reducible rfl)
          -- 11: call { callee := value (func 100), args := #[t34, t35], argTypes := #[24, 42] }
          refine chainP_callG (d := (some 36)) (.bool true) rfl (fun w' hS' => ?_) ?_
          · simp only [lookP, allP, Act.put, List.getElem?_cons_zero, List.getElem?_cons_succ, List.setIfInBounds_toArray, List.set_cons_zero, List.set_cons_succ]
            refine ⟨by kernel_rfl, ?_⟩
            intro K hK
            go_simp
            go_at_call 100
            refine (impl_areStatements gr _ l _ HG.out ((Hev.out.below (HB.out.trans (hc.mono HB.out.size))).below hS'.1)).mono ?_
            rintro e u ⟨rfl, hq⟩
            rw [Hhc3.out]
            exact hK.out _ hq
          -- 12: unOp Unnot 4 t36
          refine' chainP_readG (d := (some 37)) _ rfl (fun w' hS' => ?_) ?_; rotate_left
          · simp only [lookP, allP, Act.put, List.getElem?_cons_zero, List.getElem?_cons_succ, List.setIfInBounds_toArray, List.set_cons_zero, List.set_cons_succ]
            refine ⟨by kernel_rfl, ?_⟩
            (try dsimp only at hS')
            go_simp
            (try with_reducible rfl)
          iterate 2 (refine' chainP_read _ rfl rfl (fun w' hS' => ?_) ?_; rotate_left; · (simp only [lookP, allP, Act.put, List.getElem?_cons_zero, List.getElem?_cons_succ, List.setIfInBounds_toArray, List.set_cons_zero, List.set_cons_succ]; (try dsimp only at hS'); go_simp; (try with_reducible rfl)))
          -- 15: move t3
          refine' chainP_readG (d := (some 40)) _ rfl (fun w' hS' => ?_) ?_; rotate_left
          · simp only [lookP, allP, Act.put, List.getElem?_cons_zero, List.getElem?_cons_succ, List.setIfInBounds_toArray, List.set_cons_zero, List.set_cons_succ]
            refine ⟨by kernel_rfl, ?_⟩
            (try dsimp only at hS')
            go_simp
            (try with_reducible rfl)
          -- 16: move t2
          refine' chainP_readG (d := (some 41)) _ rfl (fun w' hS' => ?_) ?_; rotate_left
          · simp only [lookP, allP, Act.put, List.getElem?_cons_zero, List.getElem?_cons_succ, List.setIfInBounds_toArray, List.set_cons_zero, List.set_cons_succ]
            refine ⟨by kernel_rfl, ?_⟩
            (try dsimp only at hS')
            go_simp
            (try with_reducible rfl)
          -- 17: call { callee := builtin Builtin.len, args := #[t41], argTypes := #[42] }
          refine' chainP_readG (d := (some 42)) _ rfl (fun w' hS' => ?_) ?_; rotate_left
          · simp only [lookP, allP, Act.put, List.getElem?_cons_zero, List.getElem?_cons_succ, List.setIfInBounds_toArray, List.set_cons_zero, List.set_cons_succ]
            refine ⟨by kernel_rfl, ?_⟩
            (try dsimp only at hS')
            go_simp
            (try with_reducible rfl)
          -- 18: binOp Binsub 3 t42 (const (int i64 1)) 3
          refine' chainP_readG (d := (some 43)) _ rfl (fun w' hS' => ?_) ?_; rotate_left
          · simp only [lookP, allP, Act.put, List.getElem?_cons_zero, List.getElem?_cons_succ, List.setIfInBounds_toArray, List.set_cons_zero, List.set_cons_succ]
            refine ⟨by kernel_rfl, ?_⟩
            (try dsimp only at hS')
            go_simp
            (try with_reducible rfl)
          -- 19: call { callee := value (func 101), args := #[t40, const (int i64 0), t43], argTypes := #[3, 3, 3] }
          refine chainP_callG (d := (some 44)) (.bool false) rfl (fun w' hS' => ?_) ?_
          · simp only [lookP, allP, Act.put, List.getElem?_cons_zero, List.getElem?_cons_succ, List.setIfInBounds_toArray, List.set_cons_zero, List.set_cons_succ]
            refine ⟨by kernel_rfl, ?_⟩
            intro K hK
            go_simp
            go_at_call 101
            refine (impl_within k 0 ((evn : Int) - 1) _).mono ?_
            rintro e u ⟨rfl, rfl⟩
            rw [hc4]
            exact hK.out _ (Below.refl _ _)
          -- 20: unOp Unnot 4 t44
          refine' chainP_readG (d := (some 45)) _ rfl (fun w' hS' => ?_) ?_; rotate_left
          · simp only [lookP, allP, Act.put, List.getElem?_cons_zero, List.getElem?_cons_succ, List.setIfInBounds_toArray, List.set_cons_zero, List.set_cons_succ]
            refine ⟨by kernel_rfl, ?_⟩
            (try dsimp only at hS')
            go_simp
            (try with_reducible rfl)
          iterate 2 (refine' chainP_read _ rfl rfl (fun w' hS' => ?_) ?_; rotate_left; · (simp only [lookP, allP, Act.put, List.getElem?_cons_zero, List.getElem?_cons_succ, List.setIfInBounds_toArray, List.set_cons_zero, List.set_cons_succ]; (try dsimp only at hS'); go_simp; (try with_reducible rfl)))
          -- 23: load 24 t6
          refine chainP_skip (d := (some 48)) rfl (fun w' hS' => ?_) ?_
          · simp only [lookP, allP, Act.put, List.getElem?_cons_zero, List.getElem?_cons_succ, List.setIfInBounds_toArray, List.set_cons_zero, List.set_cons_succ]
            kernel_rfl
          -- 24: move t4
          refine chainP_skip (d := (some 49)) rfl (fun w' hS' => ?_) ?_
          · simp only [lookP, allP, Act.put, List.getElem?_cons_zero, List.getElem?_cons_succ, List.setIfInBounds_toArray, List.set_cons_zero, List.set_cons_succ]
            kernel_rfl
          -- 25: call { callee := value (func 71), args := #[t48, t49], argTypes := #[24, 3] }
          refine chainP_skip (d := (some 50)) rfl (fun w' hS' => ?_) ?_
          · simp only [lookP, allP, Act.put, List.getElem?_cons_zero, List.getElem?_cons_succ, List.setIfInBounds_toArray, List.set_cons_zero, List.set_cons_succ]
            kernel_rfl
          -- 26: unOp Unnot 4 t50
          refine chainP_skip (d := (some 51)) rfl (fun w' hS' => ?_) ?_
          · simp only [lookP, allP, Act.put, List.getElem?_cons_zero, List.getElem?_cons_succ, List.setIfInBounds_toArray, List.set_cons_zero, List.set_cons_succ]
            kernel_rfl
          iterate 2 (refine' chainP_read _ rfl rfl (fun w' hS' => ?_) ?_; rotate_left; · (simp only [lookP, allP, Act.put, List.getElem?_cons_zero, List.getElem?_cons_succ, List.setIfInBounds_toArray, List.set_cons_zero, List.set_cons_succ]; (try dsimp only at hS'); go_simp; (try with_reducible rfl)))
          -- 29: move t5
          refine chainP_skip (d := (some 54)) rfl (fun w' hS' => ?_) ?_
          · simp only [lookP, allP, Act.put, List.getElem?_cons_zero, List.getElem?_cons_succ, List.setIfInBounds_toArray, List.set_cons_zero, List.set_cons_succ]
            kernel_rfl
          -- 30: call { callee := builtin Builtin.len, args := #[t54], argTypes := #[43] }
          refine chainP_skip (d := (some 55)) rfl (fun w' hS' => ?_) ?_
          · simp only [lookP, allP, Act.put, List.getElem?_cons_zero, List.getElem?_cons_succ, List.setIfInBounds_toArray, List.set_cons_zero, List.set_cons_succ]
            kernel_rfl
          -- 31: move t2
          refine chainP_skip (d := (some 56)) rfl (fun w' hS' => ?_) ?_
          · simp only [lookP, allP, Act.put, List.getElem?_cons_zero, List.getElem?_cons_succ, List.setIfInBounds_toArray, List.set_cons_zero, List.set_cons_succ]
            kernel_rfl
          -- 32: call { callee := builtin Builtin.len, args := #[t56], argTypes := #[42] }
          refine chainP_skip (d := (some 57)) rfl (fun w' hS' => ?_) ?_
          · simp only [lookP, allP, Act.put, List.getElem?_cons_zero, List.getElem?_cons_succ, List.setIfInBounds_toArray, List.set_cons_zero, List.set_cons_succ]
            kernel_rfl
          -- 33: binOp Binmul 3 (const (int i64 2)) t57 3
          refine chainP_skip (d := (some 58)) rfl (fun w' hS' => ?_) ?_
          · simp only [lookP, allP, Act.put, List.getElem?_cons_zero, List.getElem?_cons_succ, List.setIfInBounds_toArray, List.set_cons_zero, List.set_cons_succ]
            kernel_rfl
          -- 34: binOp Binsub 3 t58 (const (int i64 1)) 3
          refine chainP_skip (d := (some 59)) rfl (fun w' hS' => ?_) ?_
          · simp only [lookP, allP, Act.put, List.getElem?_cons_zero, List.getElem?_cons_succ, List.setIfInBounds_toArray, List.set_cons_zero, List.set_cons_succ]
            kernel_rfl
          -- 35: binOp Binneq 3 t55 t59 3
          refine chainP_skip (d := (some 60)) rfl (fun w' hS' => ?_) ?_
          · simp only [lookP, allP, Act.put, List.getElem?_cons_zero, List.getElem?_cons_succ, List.setIfInBounds_toArray, List.set_cons_zero, List.set_cons_succ]
            kernel_rfl
          iterate 2 (refine' chainP_read _ rfl rfl (fun w' hS' => ?_) ?_; rotate_left; · (simp only [lookP, allP, Act.put, List.getElem?_cons_zero, List.getElem?_cons_succ, List.setIfInBounds_toArray, List.set_cons_zero, List.set_cons_succ]; (try dsimp only at hS'); go_simp; (try with_reducible rfl)))
          -- 38: load 24 t6
          refine chainP_skip (d := (some 63)) rfl (fun w' hS' => ?_) ?_
          · simp only [lookP, allP, Act.put, List.getElem?_cons_zero, List.getElem?_cons_succ, List.setIfInBounds_toArray, List.set_cons_zero, List.set_cons_succ]
            kernel_rfl
          -- 39: move t5
          refine chainP_skip (d := (some 64)) rfl (fun w' hS' => ?_) ?_
          · simp only [lookP, allP, Act.put, List.getElem?_cons_zero, List.getElem?_cons_succ, List.setIfInBounds_toArray, List.set_cons_zero, List.set_cons_succ]
            kernel_rfl
          -- 40: call { callee := value (func 102), args := #[t63, t64], argTypes := #[24, 43] }
          refine chainP_skip (d := (some 65)) rfl (fun w' hS' => ?_) ?_
          · simp only [lookP, allP, Act.put, List.getElem?_cons_zero, List.getElem?_cons_succ, List.setIfInBounds_toArray, List.set_cons_zero, List.set_cons_succ]
            kernel_rfl
          -- 41: unOp Unnot 4 t65
          refine chainP_skip (d := (some 66)) rfl (fun w' hS' => ?_) ?_
          · simp only [lookP, allP, Act.put, List.getElem?_cons_zero, List.getElem?_cons_succ, List.setIfInBounds_toArray, List.set_cons_zero, List.set_cons_succ]
            kernel_rfl
          iterate 2 (refine' chainP_read _ rfl rfl (fun w' hS' => ?_) ?_; rotate_left; · (simp only [lookP, allP, Act.put, List.getElem?_cons_zero, List.getElem?_cons_succ, List.setIfInBounds_toArray, List.set_cons_zero, List.set_cons_succ]; (try dsimp only at hS'); go_simp; (try with_reducible rfl)))
          -- 44: load 24 t6
          refine chainP_skip (d := (some 69)) rfl (fun w' hS' => ?_) ?_
          · simp only [lookP, allP, Act.put, List.getElem?_cons_zero, List.getElem?_cons_succ, List.setIfInBounds_toArray, List.set_cons_zero, List.set_cons_succ]
            kernel_rfl
          -- 45: move t2
          refine chainP_skip (d := (some 70)) rfl (fun w' hS' => ?_) ?_
          · simp only [lookP, allP, Act.put, List.getElem?_cons_zero, List.getElem?_cons_succ, List.setIfInBounds_toArray, List.set_cons_zero, List.set_cons_succ]
            kernel_rfl
          -- 46: move t3
          refine chainP_skip (d := (some 71)) rfl (fun w' hS' => ?_) ?_
          · simp only [lookP, allP, Act.put, List.getElem?_cons_zero, List.getElem?_cons_succ, List.setIfInBounds_toArray, List.set_cons_zero, List.set_cons_succ]
            kernel_rfl
          -- 47: indexAddr 42 t70 t71
          refine chainP_skip (d := (some 72)) rfl (fun w' hS' => ?_) ?_
          · simp only [lookP, allP, Act.put, List.getElem?_cons_zero, List.getElem?_cons_succ, List.setIfInBounds_toArray, List.set_cons_zero, List.set_cons_succ]
            kernel_rfl
          -- 48: load 31 t72
          refine chainP_skip (d := (some 73)) rfl (fun w' hS' => ?_) ?_
          · simp only [lookP, allP, Act.put, List.getElem?_cons_zero, List.getElem?_cons_succ, List.setIfInBounds_toArray, List.set_cons_zero, List.set_cons_succ]
            kernel_rfl
          -- 49: move t4
          refine chainP_skip (d := (some 74)) rfl (fun w' hS' => ?_) ?_
          · simp only [lookP, allP, Act.put, List.getElem?_cons_zero, List.getElem?_cons_succ, List.setIfInBounds_toArray, List.set_cons_zero, List.set_cons_succ]
            kernel_rfl
          -- 50: call { callee := value (func 91), args := #[t69, t73, t74], argTypes := #[24, 31, 3] }
          refine chainP_skip (d := (some 75)) rfl (fun w' hS' => ?_) ?_
          · simp only [lookP, allP, Act.put, List.getElem?_cons_zero, List.getElem?_cons_succ, List.setIfInBounds_toArray, List.set_cons_zero, List.set_cons_succ]
            kernel_rfl
          -- 51: unOp Unnot 4 t75
          refine chainP_skip (d := (some 76)) rfl (fun w' hS' => ?_) ?_
          · simp only [lookP, allP, Act.put, List.getElem?_cons_zero, List.getElem?_cons_succ, List.setIfInBounds_toArray, List.set_cons_zero, List.set_cons_succ]
            kernel_rfl
          -- 52: pick t68 (const (bool true)) t76
          refine' chainP_read (d := (some 77)) _ rfl rfl (fun w' hS' => ?_) ?_; rotate_left
          · simp only [lookP, allP, Act.put, List.getElem?_cons_zero, List.getElem?_cons_succ, List.setIfInBounds_toArray, List.set_cons_zero, List.set_cons_succ]
            (try dsimp only at hS')
            go_simp
            (try with_reducible rfl)
          refine chainP_nil (fun u1 hS' => ?_)
          simp only [allP, Act.put, List.setIfInBounds_toArray, List.set_cons_zero, List.set_cons_succ]
          have hq1 := hS'.1
          clear hS'
          replace hc := Below.next hc hq1
          clear hq1 c0_0 c0_1 c0_2
          obtain ⟨c0_0, c0_1, c0_2⟩ := HCC.out _ hc
          go_wp2_with fail
          refine NoPanic.normal ?_
          have HRE1 := Lib.hid (HR1.out.below hc)
          clear HR1
          have HBE := Lib.hid (HB.out.trans (hc.mono HB.out.size))
          have r1_0 := HRE1.out.cell (i := 0) rfl
          have r1_1 := HRE1.out.cell (i := 1) rfl
          have r1_2 := HRE1.out.cell (i := 2) rfl
          have fr1 := fun j => HRE1.out.frozen j
          go_wp2_with fail
          have HRF := Lib.hid (((HRE1.out.set 0 ((.slice none 0 0))).set 1 ((.slice none 0 0))).set 2 ((.slice none 0 0)))
          have HBF := Lib.hid (((HBE.out.setCell (p := ⟨w.heap.size + 1, 0, none⟩) (by show w.heap.size ≤ w.heap.size + 1; omega) ((.slice none 0 0))).setCell (p := ⟨w.heap.size + 1, 1, none⟩) (by show w.heap.size ≤ w.heap.size + 1; omega) ((.slice none 0 0))).setCell (p := ⟨w.heap.size + 1, 2, none⟩) (by show w.heap.size ≤ w.heap.size + 1; omega) ((.slice none 0 0)))
          clear r1_0 r1_1 r1_2 fr1
          have r1_0 := HRF.out.cell (i := 0) rfl
          have r1_1 := HRF.out.cell (i := 1) rfl
          have r1_2 := HRF.out.cell (i := 2) rfl
          try (go_wp2_with fail)
          have HVB : Hid (ooB gr s l k x cs = false) := by unfold Hid; simp [ooB, Hhc1.out, hc2, Hhc3.out, HK3d.out]
          have HPR : Hid (ooF gr s l k x cs = ⟨[], [], []⟩) := by unfold Hid ooF; rw [if_neg (by rw [HVB.out]; simp)]
          refine bodyPost_ret (v := .tuple #[.agg #[(.slice none 0 0), (.slice none 0 0), (.slice none 0 0)], .bool false]) (by simp [results, Try.results20, go_sem, r1_0, r1_1, r1_2]) rfl ⟨(by rw [HVB.out, HPR.out]; exact RetP.mk (OwnI.nil _ _) (OwnI.nil _ _) (OwnI.nil _ _)), HBF.out⟩
        | true =>
          have HK3 : Hid (0 ≤ k ∧ k ≤ (l.length : Int) - 1) := by have q := hc4; rw [decide_eq_true_iff] at q; unfold Hid; have := Eev.out; omega
          have HK3d : Hid (decide (0 ≤ k ∧ k ≤ (l.length : Int) - 1) = true) := decide_eq_true HK3.out
          have HK : Hid (k.toNat < l.length) := by have := HK3.out; unfold Hid; omega
          have HZE : Hid (eqEl gr (l[k.toNat]'HK.out) = true) := List.all_eq_true.1 (stB_all HL.out) _ (List.getElem_mem HK.out)
          have HZQ : Hid (eqAt l k.toNat = l[k.toNat]'HK.out) := eqAt_get HK.out
          have hb0 := Below.refl w.heap.size w
          have hev0 : 0 < evn := by have := HN9.out; have := Eev.out; omega
          obtain ⟨b_z, o_z, rfl, hcx⟩ := Hev.out.at_ (by omega)
          obtain ⟨us, hcell, hrd⟩ := hcx k.toNat HK.out
          clear hcx
          generalize l[k.toNat]'HK.out = z at hrd HZE HZQ
          obtain ⟨ers, jz_0, jz_1, jz_2, jz_3⟩ := rdEqualLog.1 ⟨us, rfl, hrd⟩
          obtain rfl : us = [.int .i64 z.g1, .int .i64 z.y1, .int .i64 z.g2, .int .i64 z.y2] := by have h := Value.agg.inj ers; simpa using congrArg Array.toList h
          clear ers hrd
          have y_z_0 : w.cell? ⟨b_z, o_z + k.toNat * 4, none⟩ = some (.int .i64 z.g1) := box_at (hcell 0 (by decide)) hb0
          have y_z_1 : w.cell? ⟨b_z, o_z + k.toNat * 4 + 1, none⟩ = some (.int .i64 z.y1) := box_at (hcell 1 (by decide)) hb0
          have y_z_2 : w.cell? ⟨b_z, o_z + k.toNat * 4 + 2, none⟩ = some (.int .i64 z.g2) := box_at (hcell 2 (by decide)) hb0
          have y_z_3 : w.cell? ⟨b_z, o_z + k.toNat * 4 + 3, none⟩ = some (.int .i64 z.y2) := box_at (hcell 3 (by decide)) hb0
          clear hcell
          have HR_z := Lib.hid ((kS rEqualLog).rd_below (rdEqualLog.2 ⟨rfl, jz_0, jz_1, jz_2, jz_3⟩ : (kS rEqualLog).rd w (.agg #[.int .i64 z.g1, .int .i64 z.y1, .int .i64 z.g2, .int .i64 z.y2]) z) hb0)
          have J_z_0 := Lib.hid jz_0
          have J_z_1 := Lib.hid jz_1
          have J_z_2 := Lib.hid jz_2
          have J_z_3 := Lib.hid jz_3
          clear jz_0 jz_1 jz_2 jz_3
          clear hb0
          have bk0 : 0 ≤ k := HK3.out.1
          have bk1 : k < (evn : Int) := by have := HK3.out; have := Eev.out; omega
          have Kz_0 := Lib.hid y_z_0
          clear y_z_0
          have yz_0 := box_at Kz_0.out (HB.out.trans (hc.mono HB.out.size))
          have Kz_1 := Lib.hid y_z_1
          clear y_z_1
          have yz_1 := box_at Kz_1.out (HB.out.trans (hc.mono HB.out.size))
          have Kz_2 := Lib.hid y_z_2
          clear y_z_2
          have yz_2 := box_at Kz_2.out (HB.out.trans (hc.mono HB.out.size))
          have Kz_3 := Lib.hid y_z_3
          clear y_z_3
          have yz_3 := box_at Kz_3.out (HB.out.trans (hc.mono HB.out.size))
          replace HCC : Hid (∀ u, Below W.heap.size W u → u.cell? ⟨w.heap.size, 0, none⟩ = some (.int .i64 gr.p) ∧ u.cell? ⟨w.heap.size, 1, none⟩ = some (.int .i64 gr.q) ∧ u.cell? ⟨w.heap.size, 2, none⟩ = some (.int .i64 gr.g) ∧ u.cell? ⟨b_z, o_z + k.toNat * 4, none⟩ = some (.int .i64 z.g1) ∧ u.cell? ⟨b_z, o_z + k.toNat * 4 + 1, none⟩ = some (.int .i64 z.y1) ∧ u.cell? ⟨b_z, o_z + k.toNat * 4 + 2, none⟩ = some (.int .i64 z.g2) ∧ u.cell? ⟨b_z, o_z + k.toNat * 4 + 3, none⟩ = some (.int .i64 z.y2)) := fun u h => by obtain ⟨c0_0, c0_1, c0_2⟩ := HCC.out u h; exact ⟨c0_0, c0_1, c0_2, box_at Kz_0.out (HB.out.trans (h.mono HB.out.size)), box_at Kz_1.out (HB.out.trans (h.mono HB.out.size)), box_at Kz_2.out (HB.out.trans (h.mono HB.out.size)), box_at Kz_3.out (HB.out.trans (h.mono HB.out.size))⟩
          cases hc5 : expB gr x with
          | false =>
            have Hhc5 := Lib.hid hc5
            clear hc5
            try (go_wp2_with fail)
            refine wp_region_noPanic ?_
            refine wp_region_P (fun w' => w'.cell? ⟨w.heap.size, 0, none⟩ = some (.int .i64 gr.p) ∧ w'.cell? ⟨w.heap.size, 1, none⟩ = some (.int .i64 gr.q) ∧ w'.cell? ⟨w.heap.size, 2, none⟩ = some (.int .i64 gr.g) ∧ w'.cell? ⟨b_z, o_z + k.toNat * 4, none⟩ = some (.int .i64 z.g1) ∧ w'.cell? ⟨b_z, o_z + k.toNat * 4 + 1, none⟩ = some (.int .i64 z.y1) ∧ w'.cell? ⟨b_z, o_z + k.toNat * 4 + 2, none⟩ = some (.int .i64 z.g2) ∧ w'.cell? ⟨b_z, o_z + k.toNat * 4 + 3, none⟩ = some (.int .i64 z.y2)) 55 [(0, []), (1, [0]), (2, [0]), (3, [0]), (4, [0]), (5, [0, 1]), (6, [0, 2]), (7, [3, 0]), (8, [0]), (9, [0]), (10, [1]), (11, [1, 0, 2]), (12, [0, 3]), (13, [4, 0]), (14, [0]), (15, [0]), (16, [1]), (17, [0, 2]), (18, [0, 3]), (19, [3, 0, 4]), (20, [0, 5]), (21, [6, 0]), (22, [0]), (23, [0]), (24, [1]), (25, [1, 0, 2]), (26, [0, 3]), (27, [4, 0]), (28, [0]), (29, [0]), (30, [0, 1]), (31, [2]), (32, [0, 3]), (33, [0, 4]), (34, [0, 5]), (35, [4, 0, 6]), (36, [7, 0]), (37, [0]), (38, [0]), (39, [1]), (40, [1, 0, 2]), (41, [0, 3]), (42, [4, 0]), (43, [0]), (44, [0]), (45, [1]), (46, [2]), (47, [1, 0, 3]), (48, [0, 4]), (49, [5]), (50, [5, 1, 0, 6]), (51, [0, 7]), (52, [8, 0])] [] (by kernel_rfl) (by kernel_rfl) (by kernel_rfl) rfl (fun _ _ _ _ h => h) (fun w' h => ⟨box_at c0_0 h, box_at c0_1 h, box_at c0_2 h, box_at yz_0 h, box_at yz_1 h, box_at yz_2 h, box_at yz_3 h⟩) ?_
            simp only [pickP, pickN, List.getElem?_cons_zero, List.getElem?_cons_succ]
            -- 0: load 24 t6
            refine' chainP_read (d := (some 25)) _ rfl rfl (fun w' hS' => ?_) ?_; rotate_left
            · simp only [lookP, allP, Act.put, List.getElem?_cons_zero, List.getElem?_cons_succ, List.setIfInBounds_toArray, List.set_cons_zero, List.set_cons_succ]
              (try dsimp only at hS')
              go_simp
              (try with_reducible rfl)
            -- 1: call { callee := value (func 90), args := #[t25], argTypes := #[24] }
            refine chainP_call (d := (some 26)) (.bool true) rfl rfl (fun w' hS' => ?_) ?_
            · simp only [lookP, allP, Act.put, List.getElem?_cons_zero, List.getElem?_cons_succ, List.setIfInBounds_toArray, List.set_cons_zero, List.set_cons_succ]
              intro K hK
              go_simp
              go_at_call 90
              refine (impl_IsValidGroup gr _).mono ?_
              rintro e u ⟨rfl, hq⟩
              rw [Hhc1.out]
              exact hK.out _ hq
            iterate 2 (refine' chainP_read _ rfl rfl (fun w' hS' => ?_) ?_; rotate_left; · (simp only [lookP, allP, Act.put, List.getElem?_cons_zero, List.getElem?_cons_succ, List.setIfInBounds_toArray, List.set_cons_zero, List.set_cons_succ]; (try dsimp only at hS'); go_simp; (try with_reducible rfl)))
            -- 4: move t1
            refine' chainP_readG (d := (some 29)) _ rfl (fun w' hS' => ?_) ?_; rotate_left
            · simp only [lookP, allP, Act.put, List.getElem?_cons_zero, List.getElem?_cons_succ, List.setIfInBounds_toArray, List.set_cons_zero, List.set_cons_succ]
              refine ⟨by kernel_rfl, ?_⟩
              (try dsimp only at hS')
              go_simp
              (try with_reducible rfl)
            -- 5: call { callee := value (func 99), args := #[t29], argTypes := #[9] }
            refine chainP_callG (d := (some 30)) (.bool true) rfl (fun w' hS' => ?_) ?_
            · simp only [lookP, allP, Act.put, List.getElem?_cons_zero, List.getElem?_cons_succ, List.setIfInBounds_toArray, List.set_cons_zero, List.set_cons_succ]
              refine ⟨by kernel_rfl, ?_⟩
              intro K hK
              go_simp
              go_at_call 99
              refine (impl_isLabel s _ HS3.out).mono ?_
              rintro e u ⟨rfl, rfl⟩
              rw [hc2]
              exact hK.out _ (Below.refl _ _)
            -- 6: unOp Unnot 4 t30
            refine' chainP_readG (d := (some 31)) _ rfl (fun w' hS' => ?_) ?_; rotate_left
            · simp only [lookP, allP, Act.put, List.getElem?_cons_zero, List.getElem?_cons_succ, List.setIfInBounds_toArray, List.set_cons_zero, List.set_cons_succ]
              refine ⟨by kernel_rfl, ?_⟩
              (try dsimp only at hS')
              go_simp
              (try with_reducible rfl)
            iterate 2 (refine' chainP_read _ rfl rfl (fun w' hS' => ?_) ?_; rotate_left; · (simp only [lookP, allP, Act.put, List.getElem?_cons_zero, List.getElem?_cons_succ, List.setIfInBounds_toArray, List.set_cons_zero, List.set_cons_succ]; (try dsimp only at hS'); go_simp; (try with_reducible rfl)))
            -- 9: load 24 t6
            refine' chainP_readG (d := (some 34)) _ rfl (fun w' hS' => ?_) ?_; rotate_left
            · simp only [lookP, allP, Act.put, List.getElem?_cons_zero, List.getElem?_cons_succ, List.setIfInBounds_toArray, List.set_cons_zero, List.set_cons_succ]
              refine ⟨by kernel_rfl, ?_⟩
              (try dsimp only at hS')
              go_simp
              (try with_reducible rfl)
            -- 10: move t2
            refine' chainP_readG (d := (some 35)) _ rfl (fun w' hS' => ?_) ?_; rotate_left
            · simp only [lookP, allP, Act.put, List.getElem?_cons_zero, List.getElem?_cons_succ, List.setIfInBounds_toArray, List.set_cons_zero, List.set_cons_succ]
              refine ⟨by kernel_rfl, ?_⟩
              (try dsimp only at hS')
              go_simp
              (try with_reducible rfl)
            -- 11: call { callee := value (func 100), args := #[t34, t35], argTypes := #[24, 42] }
            refine chainP_callG (d := (some 36)) (.bool true) rfl (fun w' hS' => ?_) ?_
            · simp only [lookP, allP, Act.put, List.getElem?_cons_zero, List.getElem?_cons_succ, List.setIfInBounds_toArray, List.set_cons_zero, List.set_cons_succ]
              refine ⟨by kernel_rfl, ?_⟩
              intro K hK
              go_simp
              go_at_call 100
              refine (impl_areStatements gr _ l _ HG.out ((Hev.out.below (HB.out.trans (hc.mono HB.out.size))).below hS'.1)).mono ?_
              rintro e u ⟨rfl, hq⟩
              rw [Hhc3.out]
              exact hK.out _ hq
            -- 12: unOp Unnot 4 t36
            refine' chainP_readG (d := (some 37)) _ rfl (fun w' hS' => ?_) ?_; rotate_left
            · simp only [lookP, allP, Act.put, List.getElem?_cons_zero, List.getElem?_cons_succ, List.setIfInBounds_toArray, List.set_cons_zero, List.set_cons_succ]
              refine ⟨by kernel_rfl, ?_⟩
              (try dsimp only at hS')
              go_simp
              (try with_reducible rfl)
            iterate 2 (refine' chainP_read _ rfl rfl (fun w' hS' => ?_) ?_; rotate_left; · (simp only [lookP, allP, Act.put, List.getElem?_cons_zero, List.getElem?_cons_succ, List.setIfInBounds_toArray, List.set_cons_zero, List.set_cons_succ]; (try dsimp only at hS'); go_simp; (try with_reducible rfl)))
            -- 15: move t3
            refine' chainP_readG (d := (some 40)) _ rfl (fun w' hS' => ?_) ?_; rotate_left
            · simp only [lookP, allP, Act.put, List.getElem?_cons_zero, List.getElem?_cons_succ, List.setIfInBounds_toArray, List.set_cons_zero, List.set_cons_succ]
              refine ⟨by kernel_rfl, ?_⟩
              (try dsimp only at hS')
              go_simp
              (try with_reducible rfl)
            -- 16: move t2
            refine' chainP_readG (d := (some 41)) _ rfl (fun w' hS' => ?_) ?_; rotate_left
            · simp only [lookP, allP, Act.put, List.getElem?_cons_zero, List.getElem?_cons_succ, List.setIfInBounds_toArray, List.set_cons_zero, List.set_cons_succ]
              refine ⟨by kernel_rfl, ?_⟩
              (try dsimp only at hS')
              go_simp
              (try with_reducible rfl)
            -- 17: call { callee := builtin Builtin.len, args := #[t41], argTypes := #[42] }
            refine' chainP_readG (d := (some 42)) _ rfl (fun w' hS' => ?_) ?_; rotate_left
            · simp only [lookP, allP, Act.put, List.getElem?_cons_zero, List.getElem?_cons_succ, List.setIfInBounds_toArray, List.set_cons_zero, List.set_cons_succ]
              refine ⟨by kernel_rfl, ?_⟩
              (try dsimp only at hS')
              go_simp
              (try with_reducible rfl)
            -- 18: binOp Binsub 3 t42 (const (int i64 1)) 3
            refine' chainP_readG (d := (some 43)) _ rfl (fun w' hS' => ?_) ?_; rotate_left
            · simp only [lookP, allP, Act.put, List.getElem?_cons_zero, List.getElem?_cons_succ, List.setIfInBounds_toArray, List.set_cons_zero, List.set_cons_succ]
              refine ⟨by kernel_rfl, ?_⟩
              (try dsimp only at hS')
              go_simp
              (try with_reducible rfl)
            -- 19: call { callee := value (func 101), args := #[t40, const (int i64 0), t43], argTypes := #[3, 3, 3] }
            refine chainP_callG (d := (some 44)) (.bool true) rfl (fun w' hS' => ?_) ?_
            · simp only [lookP, allP, Act.put, List.getElem?_cons_zero, List.getElem?_cons_succ, List.setIfInBounds_toArray, List.set_cons_zero, List.set_cons_succ]
              refine ⟨by kernel_rfl, ?_⟩
              intro K hK
              go_simp
              go_at_call 101
              refine (impl_within k 0 ((evn : Int) - 1) _).mono ?_
              rintro e u ⟨rfl, rfl⟩
              rw [hc4]
              exact hK.out _ (Below.refl _ _)
            -- 20: unOp Unnot 4 t44
            refine' chainP_readG (d := (some 45)) _ rfl (fun w' hS' => ?_) ?_; rotate_left
            · simp only [lookP, allP, Act.put, List.getElem?_cons_zero, List.getElem?_cons_succ, List.setIfInBounds_toArray, List.set_cons_zero, List.set_cons_succ]
              refine ⟨by kernel_rfl, ?_⟩
              (try dsimp only at hS')
              go_simp
              (try with_reducible rfl)
            iterate 2 (refine' chainP_read _ rfl rfl (fun w' hS' => ?_) ?_; rotate_left; · (simp only [lookP, allP, Act.put, List.getElem?_cons_zero, List.getElem?_cons_succ, List.setIfInBounds_toArray, List.set_cons_zero, List.set_cons_succ]; (try dsimp only at hS'); go_simp; (try with_reducible rfl)))
            -- 23: load 24 t6
            refine' chainP_readG (d := (some 48)) _ rfl (fun w' hS' => ?_) ?_; rotate_left
            · simp only [lookP, allP, Act.put, List.getElem?_cons_zero, List.getElem?_cons_succ, List.setIfInBounds_toArray, List.set_cons_zero, List.set_cons_succ]
              refine ⟨by kernel_rfl, ?_⟩
              (try dsimp only at hS')
              go_simp
              (try with_reducible rfl)
            -- 24: move t4
            refine' chainP_readG (d := (some 49)) _ rfl (fun w' hS' => ?_) ?_; rotate_left
            · simp only [lookP, allP, Act.put, List.getElem?_cons_zero, List.getElem?_cons_succ, List.setIfInBounds_toArray, List.set_cons_zero, List.set_cons_succ]
              refine ⟨by kernel_rfl, ?_⟩
              (try dsimp only at hS')
              go_simp
              (try with_reducible rfl)
            -- 25: call { callee := value (func 71), args := #[t48, t49], argTypes := #[24, 3] }
            refine chainP_callG (d := (some 50)) (.bool false) rfl (fun w' hS' => ?_) ?_
            · simp only [lookP, allP, Act.put, List.getElem?_cons_zero, List.getElem?_cons_succ, List.setIfInBounds_toArray, List.set_cons_zero, List.set_cons_succ]
              refine ⟨by kernel_rfl, ?_⟩
              intro K hK
              go_simp
              go_at_call 71
              refine (impl_isExp gr x _ HG.out).mono ?_
              rintro e u ⟨rfl, hq⟩
              rw [Hhc5.out]
              exact hK.out _ hq
            -- 26: unOp Unnot 4 t50
            refine' chainP_readG (d := (some 51)) _ rfl (fun w' hS' => ?_) ?_; rotate_left
            · simp only [lookP, allP, Act.put, List.getElem?_cons_zero, List.getElem?_cons_succ, List.setIfInBounds_toArray, List.set_cons_zero, List.set_cons_succ]
              refine ⟨by kernel_rfl, ?_⟩
              (try dsimp only at hS')
              go_simp
              (try with_reducible rfl)
            iterate 2 (refine' chainP_read _ rfl rfl (fun w' hS' => ?_) ?_; rotate_left; · (simp only [lookP, allP, Act.put, List.getElem?_cons_zero, List.getElem?_cons_succ, List.setIfInBounds_toArray, List.set_cons_zero, List.set_cons_succ]; (try dsimp only at hS'); go_simp; (try with_reducible rfl)))
            -- 29: move t5
            refine chainP_skip (d := (some 54)) rfl (fun w' hS' => ?_) ?_
            · simp only [lookP, allP, Act.put, List.getElem?_cons_zero, List.getElem?_cons_succ, List.setIfInBounds_toArray, List.set_cons_zero, List.set_cons_succ]
              kernel_rfl
            -- 30: call { callee := builtin Builtin.len, args := #[t54], argTypes := #[43] }
            refine chainP_skip (d := (some 55)) rfl (fun w' hS' => ?_) ?_
            · simp only [lookP, allP, Act.put, List.getElem?_cons_zero, List.getElem?_cons_succ, List.setIfInBounds_toArray, List.set_cons_zero, List.set_cons_succ]
              kernel_rfl
            -- 31: move t2
            refine chainP_skip (d := (some 56)) rfl (fun w' hS' => ?_) ?_
            · simp only [lookP, allP, Act.put, List.getElem?_cons_zero, List.getElem?_cons_succ, List.setIfInBounds_toArray, List.set_cons_zero, List.set_cons_succ]
              kernel_rfl
            -- 32: call { callee := builtin Builtin.len, args := #[t56], argTypes := #[42] }
            refine chainP_skip (d := (some 57)) rfl (fun w' hS' => ?_) ?_
            · simp only [lookP, allP, Act.put, List.getElem?_cons_zero, List.getElem?_cons_succ, List.setIfInBounds_toArray, List.set_cons_zero, List.set_cons_succ]
              kernel_rfl
            -- 33: binOp Binmul 3 (const (int i64 2)) t57 3
            refine chainP_skip (d := (some 58)) rfl (fun w' hS' => ?_) ?_
            · simp only [lookP, allP, Act.put, List.getElem?_cons_zero, List.getElem?_cons_succ, List.setIfInBounds_toArray, List.set_cons_zero, List.set_cons_succ]
              kernel_rfl
            -- 34: binOp Binsub 3 t58 (const (int i64 1)) 3
            refine chainP_skip (d := (some 59)) rfl (fun w' hS' => ?_) ?_
            · simp only [lookP, allP, Act.put, List.getElem?_cons_zero, List.getElem?_cons_succ, List.setIfInBounds_toArray, List.set_cons_zero, List.set_cons_succ]
              kernel_rfl
            -- 35: binOp Binneq 3 t55 t59 3
            refine chainP_skip (d := (some 60)) rfl (fun w' hS' => ?_) ?_
            · simp only [lookP, allP, Act.put, List.getElem?_cons_zero, List.getElem?_cons_succ, List.setIfInBounds_toArray, List.set_cons_zero, List.set_cons_succ]
              kernel_rfl
            iterate 2 (refine' chainP_read _ rfl rfl (fun w' hS' => ?_) ?_; rotate_left; · (simp only [lookP, allP, Act.put, List.getElem?_cons_zero, List.getElem?_cons_succ, List.setIfInBounds_toArray, List.set_cons_zero, List.set_cons_succ]; (try dsimp only at hS'); go_simp; (try with_reducible rfl)))
            -- 38: load 24 t6
            refine chainP_skip (d := (some 63)) rfl (fun w' hS' => ?_) ?_
            · simp only [lookP, allP, Act.put, List.getElem?_cons_zero, List.getElem?_cons_succ, List.setIfInBounds_toArray, List.set_cons_zero, List.set_cons_succ]
              kernel_rfl
            -- 39: move t5
            refine chainP_skip (d := (some 64)) rfl (fun w' hS' => ?_) ?_
            · simp only [lookP, allP, Act.put, List.getElem?_cons_zero, List.getElem?_cons_succ, List.setIfInBounds_toArray, List.set_cons_zero, List.set_cons_succ]
              kernel_rfl
            -- 40: call { callee := value (func 102), args := #[t63, t64], argTypes := #[24, 43] }
            refine chainP_skip (d := (some 65)) rfl (fun w' hS' => ?_) ?_
            · simp only [lookP, allP, Act.put, List.getElem?_cons_zero, List.getElem?_cons_succ, List.setIfInBounds_toArray, List.set_cons_zero, List.set_cons_succ]
              kernel_rfl
            -- 41: unOp Unnot 4 t65
            refine chainP_skip (d := (some 66)) rfl (fun w' hS' => ?_) ?_
            · simp only [lookP, allP, Act.put, List.getElem?_cons_zero, List.getElem?_cons_succ, List.setIfInBounds_toArray, List.set_cons_zero, List.set_cons_succ]
              kernel_rfl
            iterate 2 (refine' chainP_read _ rfl rfl (fun w' hS' => ?_) ?_; rotate_left; · (simp only [lookP, allP, Act.put, List.getElem?_cons_zero, List.getElem?_cons_succ, List.setIfInBounds_toArray, List.set_cons_zero, List.set_cons_succ]; (try dsimp only at hS'); go_simp; (try with_reducible rfl)))
            -- 44: load 24 t6
            refine chainP_skip (d := (some 69)) rfl (fun w' hS' => ?_) ?_
            · simp only [lookP, allP, Act.put, List.getElem?_cons_zero, List.getElem?_cons_succ, List.setIfInBounds_toArray, List.set_cons_zero, List.set_cons_succ]
              kernel_rfl
            -- 45: move t2
            refine chainP_skip (d := (some 70)) rfl (fun w' hS' => ?_) ?_
            · simp only [lookP, allP, Act.put, List.getElem?_cons_zero, List.getElem?_cons_succ, List.setIfInBounds_toArray, List.set_cons_zero, List.set_cons_succ]
              kernel_rfl
            -- 46: move t3
            refine chainP_skip (d := (some 71)) rfl (fun w' hS' => ?_) ?_
            · simp only [lookP, allP, Act.put, List.getElem?_cons_zero, List.getElem?_cons_succ, List.setIfInBounds_toArray, List.set_cons_zero, List.set_cons_succ]
              kernel_rfl
            -- 47: indexAddr 42 t70 t71
            refine chainP_skip (d := (some 72)) rfl (fun w' hS' => ?_) ?_
            · simp only [lookP, allP, Act.put, List.getElem?_cons_zero, List.getElem?_cons_succ, List.setIfInBounds_toArray, List.set_cons_zero, List.set_cons_succ]
              kernel_rfl
            -- 48: load 31 t72
            refine chainP_skip (d := (some 73)) rfl (fun w' hS' => ?_) ?_
            · simp only [lookP, allP, Act.put, List.getElem?_cons_zero, List.getElem?_cons_succ, List.setIfInBounds_toArray, List.set_cons_zero, List.set_cons_succ]
              kernel_rfl
            -- 49: move t4
            refine chainP_skip (d := (some 74)) rfl (fun w' hS' => ?_) ?_
            · simp only [lookP, allP, Act.put, List.getElem?_cons_zero, List.getElem?_cons_succ, List.setIfInBounds_toArray, List.set_cons_zero, List.set_cons_succ]
              kernel_rfl
            -- 50: call { callee := value (func 91), args := #[t69, t73, t74], argTypes := #[24, 31, 3] }
            refine chainP_skip (d := (some 75)) rfl (fun w' hS' => ?_) ?_
            · simp only [lookP, allP, Act.put, List.getElem?_cons_zero, List.getElem?_cons_succ, List.setIfInBounds_toArray, List.set_cons_zero, List.set_cons_succ]
              kernel_rfl
            -- 51: unOp Unnot 4 t75
            refine chainP_skip (d := (some 76)) rfl (fun w' hS' => ?_) ?_
            · simp only [lookP, allP, Act.put, List.getElem?_cons_zero, List.getElem?_cons_succ, List.setIfInBounds_toArray, List.set_cons_zero, List.set_cons_succ]
              kernel_rfl
            -- 52: pick t68 (const (bool true)) t76
            refine' chainP_read (d := (some 77)) _ rfl rfl (fun w' hS' => ?_) ?_; rotate_left
            · simp only [lookP, allP, Act.put, List.getElem?_cons_zero, List.getElem?_cons_succ, List.setIfInBounds_toArray, List.set_cons_zero, List.set_cons_succ]
              (try dsimp only at hS')
              go_simp
              (try with_reducible rfl)
            refine chainP_nil (fun u1 hS' => ?_)
            simp only [allP, Act.put, List.setIfInBounds_toArray, List.set_cons_zero, List.set_cons_succ]
            have hq1 := hS'.1
            clear hS'
            replace hc := Below.next hc hq1
            clear hq1 c0_0 c0_1 c0_2 yz_0 yz_1 yz_2 yz_3
            obtain ⟨c0_0, c0_1, c0_2, yz_0, yz_1, yz_2, yz_3⟩ := HCC.out _ hc
            go_wp2_with fail
            refine NoPanic.normal ?_
            have HRE1 := Lib.hid (HR1.out.below hc)
            clear HR1
            have HBE := Lib.hid (HB.out.trans (hc.mono HB.out.size))
            have r1_0 := HRE1.out.cell (i := 0) rfl
            have r1_1 := HRE1.out.cell (i := 1) rfl
            have r1_2 := HRE1.out.cell (i := 2) rfl
            have fr1 := fun j => HRE1.out.frozen j
            go_wp2_with fail
            have HRF := Lib.hid (((HRE1.out.set 0 ((.slice none 0 0))).set 1 ((.slice none 0 0))).set 2 ((.slice none 0 0)))
            have HBF := Lib.hid (((HBE.out.setCell (p := ⟨w.heap.size + 1, 0, none⟩) (by show w.heap.size ≤ w.heap.size + 1; omega) ((.slice none 0 0))).setCell (p := ⟨w.heap.size + 1, 1, none⟩) (by show w.heap.size ≤ w.heap.size + 1; omega) ((.slice none 0 0))).setCell (p := ⟨w.heap.size + 1, 2, none⟩) (by show w.heap.size ≤ w.heap.size + 1; omega) ((.slice none 0 0)))
            clear r1_0 r1_1 r1_2 fr1
            have r1_0 := HRF.out.cell (i := 0) rfl
            have r1_1 := HRF.out.cell (i := 1) rfl
            have r1_2 := HRF.out.cell (i := 2) rfl
            try (go_wp2_with fail)
            have HVB : Hid (ooB gr s l k x cs = false) := by unfold Hid; simp [ooB, Hhc1.out, hc2, Hhc3.out, Hhc5.out, HK3d.out]
            have HPR : Hid (ooF gr s l k x cs = ⟨[], [], []⟩) := by unfold Hid ooF; rw [if_neg (by rw [HVB.out]; simp)]
            refine bodyPost_ret (v := .tuple #[.agg #[(.slice none 0 0), (.slice none 0 0), (.slice none 0 0)], .bool false]) (by simp [results, Try.results20, go_sem, r1_0, r1_1, r1_2]) rfl ⟨(by rw [HVB.out, HPR.out]; exact RetP.mk (OwnI.nil _ _) (OwnI.nil _ _) (OwnI.nil _ _)), HBF.out⟩
          | true =>
            have HXE : Hid (expB gr x = true) := hc5
            have HXS := Lib.hid (expB_small HG.out HXE.out)
            have Hhc5 := Lib.hid hc5
            clear hc5
            cases hc6 : ((cvn : Int) != ((2 * (evn : Int)) - 1)) with
            | false =>
              have HLN : Hid ((cs.length : Int) = 2 * (l.length : Int) - 1) := by have q := hc6; rw [bne_eq_false_iff_eq] at q; unfold Hid; have := Eev.out; have := Ecv.out; omega
              have HLNd : Hid (decide ((cs.length : Int) = 2 * (l.length : Int) - 1) = true) := decide_eq_true HLN.out
              cases hc7 : cs.all (expB gr) with
              | false =>
                have Hhc7 := Lib.hid hc7
                clear hc7
                try (go_wp2_with fail)
                refine wp_region_noPanic ?_
                refine wp_region_P (fun w' => w'.cell? ⟨w.heap.size, 0, none⟩ = some (.int .i64 gr.p) ∧ w'.cell? ⟨w.heap.size, 1, none⟩ = some (.int .i64 gr.q) ∧ w'.cell? ⟨w.heap.size, 2, none⟩ = some (.int .i64 gr.g) ∧ w'.cell? ⟨b_z, o_z + k.toNat * 4, none⟩ = some (.int .i64 z.g1) ∧ w'.cell? ⟨b_z, o_z + k.toNat * 4 + 1, none⟩ = some (.int .i64 z.y1) ∧ w'.cell? ⟨b_z, o_z + k.toNat * 4 + 2, none⟩ = some (.int .i64 z.g2) ∧ w'.cell? ⟨b_z, o_z + k.toNat * 4 + 3, none⟩ = some (.int .i64 z.y2)) 55 [(0, []), (1, [0]), (2, [0]), (3, [0]), (4, [0]), (5, [0, 1]), (6, [0, 2]), (7, [3, 0]), (8, [0]), (9, [0]), (10, [1]), (11, [1, 0, 2]), (12, [0, 3]), (13, [4, 0]), (14, [0]), (15, [0]), (16, [1]), (17, [0, 2]), (18, [0, 3]), (19, [3, 0, 4]), (20, [0, 5]), (21, [6, 0]), (22, [0]), (23, [0]), (24, [1]), (25, [1, 0, 2]), (26, [0, 3]), (27, [4, 0]), (28, [0]), (29, [0]), (30, [0, 1]), (31, [2]), (32, [0, 3]), (33, [0, 4]), (34, [0, 5]), (35, [4, 0, 6]), (36, [7, 0]), (37, [0]), (38, [0]), (39, [1]), (40, [1, 0, 2]), (41, [0, 3]), (42, [4, 0]), (43, [0]), (44, [0]), (45, [1]), (46, [2]), (47, [1, 0, 3]), (48, [0, 4]), (49, [5]), (50, [5, 1, 0, 6]), (51, [0, 7]), (52, [8, 0])] [] (by kernel_rfl) (by kernel_rfl) (by kernel_rfl) rfl (fun _ _ _ _ h => h) (fun w' h => ⟨box_at c0_0 h, box_at c0_1 h, box_at c0_2 h, box_at yz_0 h, box_at yz_1 h, box_at yz_2 h, box_at yz_3 h⟩) ?_
                simp only [pickP, pickN, List.getElem?_cons_zero, List.getElem?_cons_succ]
                -- 0: load 24 t6
                refine' chainP_read (d := (some 25)) _ rfl rfl (fun w' hS' => ?_) ?_; rotate_left
                · simp only [lookP, allP, Act.put, List.getElem?_cons_zero, List.getElem?_cons_succ, List.setIfInBounds_toArray, List.set_cons_zero, List.set_cons_succ]
                  (try dsimp only at hS')
                  go_simp
                  (try with_reducible rfl)
                -- 1: call { callee := value (func 90), args := #[t25], argTypes := #[24] }
                refine chainP_call (d := (some 26)) (.bool true) rfl rfl (fun w' hS' => ?_) ?_
                · simp only [lookP, allP, Act.put, List.getElem?_cons_zero, List.getElem?_cons_succ, List.setIfInBounds_toArray, List.set_cons_zero, List.set_cons_succ]
                  intro K hK
                  go_simp
                  go_at_call 90
                  refine (impl_IsValidGroup gr _).mono ?_
                  rintro e u ⟨rfl, hq⟩
                  rw [Hhc1.out]
                  exact hK.out _ hq
                iterate 2 (refine' chainP_read _ rfl rfl (fun w' hS' => ?_) ?_; rotate_left; · (simp only [lookP, allP, Act.put, List.getElem?_cons_zero, List.getElem?_cons_succ, List.setIfInBounds_toArray, List.set_cons_zero, List.set_cons_succ]; (try dsimp only at hS'); go_simp; (try with_reducible rfl)))
                -- 4: move t1
                refine' chainP_readG (d := (some 29)) _ rfl (fun w' hS' => ?_) ?_; rotate_left
                · simp only [lookP, allP, Act.put, List.getElem?_cons_zero, List.getElem?_cons_succ, List.setIfInBounds_toArray, List.set_cons_zero, List.set_cons_succ]
                  refine ⟨by kernel_rfl, ?_⟩
                  (try dsimp only at hS')
                  go_simp
                  (try with_reducible rfl)
                -- 5: call { callee := value (func 99), args := #[t29], argTypes := #[9] }
                refine chainP_callG (d := (some 30)) (.bool true) rfl (fun w' hS' => ?_) ?_
                · simp only [lookP, allP, Act.put, List.getElem?_cons_zero, List.getElem?_cons_succ, List.setIfInBounds_toArray, List.set_cons_zero, List.set_cons_succ]
                  refine ⟨by kernel_rfl, ?_⟩
                  intro K hK
                  go_simp
                  go_at_call 99
                  refine (impl_isLabel s _ HS3.out).mono ?_
                  rintro e u ⟨rfl, rfl⟩
                  rw [hc2]
                  exact hK.out _ (Below.refl _ _)
                -- 6: unOp Unnot 4 t30
                refine' chainP_readG (d := (some 31)) _ rfl (fun w' hS' => ?_) ?_; rotate_left
                · simp only [lookP, allP, Act.put, List.getElem?_cons_zero, List.getElem?_cons_succ, List.setIfInBounds_toArray, List.set_cons_zero, List.set_cons_succ]
                  refine ⟨by kernel_rfl, ?_⟩
                  (try dsimp only at hS')
                  go_simp
                  (try with_reducible rfl)
                iterate 2 (refine' chainP_read _ rfl rfl (fun w' hS' => ?_) ?_; rotate_left; · (simp only [lookP, allP, Act.put, List.getElem?_cons_zero, List.getElem?_cons_succ, List.setIfInBounds_toArray, List.set_cons_zero, List.set_cons_succ]; (try dsimp only at hS'); go_simp; (try with_reducible rfl)))
                -- 9: load 24 t6
                refine' chainP_readG (d := (some 34)) _ rfl (fun w' hS' => ?_) ?_; rotate_left
                · simp only [lookP, allP, Act.put, List.getElem?_cons_zero, List.getElem?_cons_succ, List.setIfInBounds_toArray, List.set_cons_zero, List.set_cons_succ]
                  refine ⟨by kernel_rfl, ?_⟩
                  (try dsimp only at hS')
                  go_simp
                  (try with_reducible rfl)
                -- 10: move t2
                refine' chainP_readG (d := (some 35)) _ rfl (fun w' hS' => ?_) ?_; rotate_left
                · simp only [lookP, allP, Act.put, List.getElem?_cons_zero, List.getElem?_cons_succ, List.setIfInBounds_toArray, List.set_cons_zero, List.set_cons_succ]
                  refine ⟨by kernel_rfl, ?_⟩
                  (try dsimp only at hS')
                  go_simp
                  (try with_reducible rfl)
                -- 11: call { callee := value (func 100), args := #[t34, t35], argTypes := #[24, 42] }
                refine chainP_callG (d := (some 36)) (.bool true) rfl (fun w' hS' => ?_) ?_
                · simp only [lookP, allP, Act.put, List.getElem?_cons_zero, List.getElem?_cons_succ, List.setIfInBounds_toArray, List.set_cons_zero, List.set_cons_succ]
                  refine ⟨by kernel_rfl, ?_⟩
                  intro K hK
                  go_simp
                  go_at_call 100
                  refine (impl_areStatements gr _ l _ HG.out ((Hev.out.below (HB.out.trans (hc.mono HB.out.size))).below hS'.1)).mono ?_
                  rintro e u ⟨rfl, hq⟩
                  rw [Hhc3.out]
                  exact hK.out _ hq
                -- 12: unOp Unnot 4 t36
                refine' chainP_readG (d := (some 37)) _ rfl (fun w' hS' => ?_) ?_; rotate_left
                · simp only [lookP, allP, Act.put, List.getElem?_cons_zero, List.getElem?_cons_succ, List.setIfInBounds_toArray, List.set_cons_zero, List.set_cons_succ]
                  refine ⟨by kernel_rfl, ?_⟩
                  (try dsimp only at hS')
                  go_simp
                  (try with_reducible rfl)
                iterate 2 (refine' chainP_read _ rfl rfl (fun w' hS' => ?_) ?_; rotate_left; · (simp only [lookP, allP, Act.put, List.getElem?_cons_zero, List.getElem?_cons_succ, List.setIfInBounds_toArray, List.set_cons_zero, List.set_cons_succ]; (try dsimp only at hS'); go_simp; (try with_reducible rfl)))
                -- 15: move t3
                refine' chainP_readG (d := (some 40)) _ rfl (fun w' hS' => ?_) ?_; rotate_left
                · simp only [lookP, allP, Act.put, List.getElem?_cons_zero, List.getElem?_cons_succ, List.setIfInBounds_toArray, List.set_cons_zero, List.set_cons_succ]
                  refine ⟨by kernel_rfl, ?_⟩
                  (try dsimp only at hS')
                  go_simp
                  (try with_reducible rfl)
                -- 16: move t2
                refine' chainP_readG (d := (some 41)) _ rfl (fun w' hS' => ?_) ?_; rotate_left
                · simp only [lookP, allP, Act.put, List.getElem?_cons_zero, List.getElem?_cons_succ, List.setIfInBounds_toArray, List.set_cons_zero, List.set_cons_succ]
                  refine ⟨by kernel_rfl, ?_⟩
                  (try dsimp only at hS')
                  go_simp
                  (try with_reducible rfl)
                -- 17: call { callee := builtin Builtin.len, args := #[t41], argTypes := #[42] }
                refine' chainP_readG (d := (some 42)) _ rfl (fun w' hS' => ?_) ?_; rotate_left
                · simp only [lookP, allP, Act.put, List.getElem?_cons_zero, List.getElem?_cons_succ, List.setIfInBounds_toArray, List.set_cons_zero, List.set_cons_succ]
                  refine ⟨by kernel_rfl, ?_⟩
                  (try dsimp only at hS')
                  go_simp
                  (try with_reducible rfl)
                -- 18: binOp Binsub 3 t42 (const (int i64 1)) 3
                refine' chainP_readG (d := (some 43)) _ rfl (fun w' hS' => ?_) ?_; rotate_left
                · simp only [lookP, allP, Act.put, List.getElem?_cons_zero, List.getElem?_cons_succ, List.setIfInBounds_toArray, List.set_cons_zero, List.set_cons_succ]
                  refine ⟨by kernel_rfl, ?_⟩
                  (try dsimp only at hS')
                  go_simp
                  (try with_reducible rfl)
                -- 19: call { callee := value (func 101), args := #[t40, const (int i64 0), t43], argTypes := #[3, 3, 3] }
                refine chainP_callG (d := (some 44)) (.bool true) rfl (fun w' hS' => ?_) ?_
                · simp only [lookP, allP, Act.put, List.getElem?_cons_zero, List.getElem?_cons_succ, List.setIfInBounds_toArray, List.set_cons_zero, List.set_cons_succ]
                  refine ⟨by kernel_rfl, ?_⟩
                  intro K hK
                  go_simp
                  go_at_call 101
                  refine (impl_within k 0 ((evn : Int) - 1) _).mono ?_
                  rintro e u ⟨rfl, rfl⟩
                  rw [hc4]
                  exact hK.out _ (Below.refl _ _)
                -- 20: unOp Unnot 4 t44
                refine' chainP_readG (d := (some 45)) _ rfl (fun w' hS' => ?_) ?_; rotate_left
                · simp only [lookP, allP, Act.put, List.getElem?_cons_zero, List.getElem?_cons_succ, List.setIfInBounds_toArray, List.set_cons_zero, List.set_cons_succ]
                  refine ⟨by kernel_rfl, ?_⟩
                  (try dsimp only at hS')
                  go_simp
                  (try with_reducible rfl)
                iterate 2 (refine' chainP_read _ rfl rfl (fun w' hS' => ?_) ?_; rotate_left; · (simp only [lookP, allP, Act.put, List.getElem?_cons_zero, List.getElem?_cons_succ, List.setIfInBounds_toArray, List.set_cons_zero, List.set_cons_succ]; (try dsimp only at hS'); go_simp; (try with_reducible rfl)))
                -- 23: load 24 t6
                refine' chainP_readG (d := (some 48)) _ rfl (fun w' hS' => ?_) ?_; rotate_left
                · simp only [lookP, allP, Act.put, List.getElem?_cons_zero, List.getElem?_cons_succ, List.setIfInBounds_toArray, List.set_cons_zero, List.set_cons_succ]
                  refine ⟨by kernel_rfl, ?_⟩
                  (try dsimp only at hS')
                  go_simp
                  (try with_reducible rfl)
                -- 24: move t4
                refine' chainP_readG (d := (some 49)) _ rfl (fun w' hS' => ?_) ?_; rotate_left
                · simp only [lookP, allP, Act.put, List.getElem?_cons_zero, List.getElem?_cons_succ, List.setIfInBounds_toArray, List.set_cons_zero, List.set_cons_succ]
                  refine ⟨by kernel_rfl, ?_⟩
                  (try dsimp only at hS')
                  go_simp
                  (try with_reducible rfl)
                -- 25: call { callee := value (func 71), args := #[t48, t49], argTypes := #[24, 3] }
                refine chainP_callG (d := (some 50)) (.bool true) rfl (fun w' hS' => ?_) ?_
                · simp only [lookP, allP, Act.put, List.getElem?_cons_zero, List.getElem?_cons_succ, List.setIfInBounds_toArray, List.set_cons_zero, List.set_cons_succ]
                  refine ⟨by kernel_rfl, ?_⟩
                  intro K hK
                  go_simp
                  go_at_call 71
                  refine (impl_isExp gr x _ HG.out).mono ?_
                  rintro e u ⟨rfl, hq⟩
                  rw [Hhc5.out]
                  exact hK.out _ hq
                -- 26: unOp Unnot 4 t50
                refine' chainP_readG (d := (some 51)) _ rfl (fun w' hS' => ?_) ?_; rotate_left
                · simp only [lookP, allP, Act.put, List.getElem?_cons_zero, List.getElem?_cons_succ, List.setIfInBounds_toArray, List.set_cons_zero, List.set_cons_succ]
                  refine ⟨by kernel_rfl, ?_⟩
                  (try dsimp only at hS')
                  go_simp
                  (try with_reducible rfl)
                iterate 2 (refine' chainP_read _ rfl rfl (fun w' hS' => ?_) ?_; rotate_left; · (simp only [lookP, allP, Act.put, List.getElem?_cons_zero, List.getElem?_cons_succ, List.setIfInBounds_toArray, List.set_cons_zero, List.set_cons_succ]; (try dsimp only at hS'); go_simp; (try with_reducible rfl)))
                -- 29: move t5
                refine' chainP_readG (d := (some 54)) _ rfl (fun w' hS' => ?_) ?_; rotate_left
                · simp only [lookP, allP, Act.put, List.getElem?_cons_zero, List.getElem?_cons_succ, List.setIfInBounds_toArray, List.set_cons_zero, List.set_cons_succ]
                  refine ⟨by kernel_rfl, ?_⟩
                  (try dsimp only at hS')
                  go_simp
                  (try with_reducible rfl)
                -- 30: call { callee := builtin Builtin.len, args := #[t54], argTypes := #[43] }
                refine' chainP_readG (d := (some 55)) _ rfl (fun w' hS' => ?_) ?_; rotate_left
                · simp only [lookP, allP, Act.put, List.getElem?_cons_zero, List.getElem?_cons_succ, List.setIfInBounds_toArray, List.set_cons_zero, List.set_cons_succ]
                  refine ⟨by kernel_rfl, ?_⟩
                  (try dsimp only at hS')
                  go_simp
                  (try with_reducible rfl)
                -- 31: move t2
                refine' chainP_readG (d := (some 56)) _ rfl (fun w' hS' => ?_) ?_; rotate_left
                · simp only [lookP, allP, Act.put, List.getElem?_cons_zero, List.getElem?_cons_succ, List.setIfInBounds_toArray, List.set_cons_zero, List.set_cons_succ]
                  refine ⟨by kernel_rfl, ?_⟩
                  (try dsimp only at hS')
                  go_simp
                  (try with_reducible rfl)
                -- 32: call { callee := builtin Builtin.len, args := #[t56], argTypes := #[42] }
                refine' chainP_readG (d := (some 57)) _ rfl (fun w' hS' => ?_) ?_; rotate_left
                · simp only [lookP, allP, Act.put, List.getElem?_cons_zero, List.getElem?_cons_succ, List.setIfInBounds_toArray, List.set_cons_zero, List.set_cons_succ]
                  refine ⟨by kernel_rfl, ?_⟩
                  (try dsimp only at hS')
                  go_simp
                  (try with_reducible rfl)
                -- 33: binOp Binmul 3 (const (int i64 2)) t57 3
                refine' chainP_readG (d := (some 58)) _ rfl (fun w' hS' => ?_) ?_; rotate_left
                · simp only [lookP, allP, Act.put, List.getElem?_cons_zero, List.getElem?_cons_succ, List.setIfInBounds_toArray, List.set_cons_zero, List.set_cons_succ]
                  refine ⟨by kernel_rfl, ?_⟩
                  (try dsimp only at hS')
                  go_simp
                  (try with_reducible rfl)
                -- 34: binOp Binsub 3 t58 (const (int i64 1)) 3
                refine' chainP_readG (d := (some 59)) _ rfl (fun w' hS' => ?_) ?_; rotate_left
                · simp only [lookP, allP, Act.put, List.getElem?_cons_zero, List.getElem?_cons_succ, List.setIfInBounds_toArray, List.set_cons_zero, List.set_cons_succ]
                  refine ⟨by kernel_rfl, ?_⟩
                  (try dsimp only at hS')
                  go_simp
                  (try with_reducible rfl)
                -- 35: binOp Binneq 3 t55 t59 3
                refine' chainP_readG (d := (some 60)) _ rfl (fun w' hS' => ?_) ?_; rotate_left
                · simp only [lookP, allP, Act.put, List.getElem?_cons_zero, List.getElem?_cons_succ, List.setIfInBounds_toArray, List.set_cons_zero, List.set_cons_succ]
                  refine ⟨by kernel_rfl, ?_⟩
                  (try dsimp only at hS')
                  go_simp
                  (try with_reducible rfl)
                iterate 2 (refine' chainP_read _ rfl rfl (fun w' hS' => ?_) ?_; rotate_left; · (simp only [lookP, allP, Act.put, List.getElem?_cons_zero, List.getElem?_cons_succ, List.setIfInBounds_toArray, List.set_cons_zero, List.set_cons_succ]; (try dsimp only at hS'); go_simp; (try with_reducible rfl)))
                -- 38: load 24 t6
                refine' chainP_readG (d := (some 63)) _ rfl (fun w' hS' => ?_) ?_; rotate_left
                · simp only [lookP, allP, Act.put, List.getElem?_cons_zero, List.getElem?_cons_succ, List.setIfInBounds_toArray, List.set_cons_zero, List.set_cons_succ]
                  refine ⟨by kernel_rfl, ?_⟩
                  (try dsimp only at hS')
                  go_simp
                  (try with_reducible rfl)
                -- 39: move t5
                refine' chainP_readG (d := (some 64)) _ rfl (fun w' hS' => ?_) ?_; rotate_left
                · simp only [lookP, allP, Act.put, List.getElem?_cons_zero, List.getElem?_cons_succ, List.setIfInBounds_toArray, List.set_cons_zero, List.set_cons_succ]
                  refine ⟨by kernel_rfl, ?_⟩
                  (try dsimp only at hS')
                  go_simp
                  (try with_reducible rfl)
                -- 40: call { callee := value (func 102), args := #[t63, t64], argTypes := #[24, 43] }
                refine chainP_callG (d := (some 65)) (.bool false) rfl (fun w' hS' => ?_) ?_
                · simp only [lookP, allP, Act.put, List.getElem?_cons_zero, List.getElem?_cons_succ, List.setIfInBounds_toArray, List.set_cons_zero, List.set_cons_succ]
                  refine ⟨by kernel_rfl, ?_⟩
                  intro K hK
                  go_simp
                  go_at_call 102
                  refine (impl_areExps gr _ cs _ HG.out ((Hcv.out.below (HB.out.trans (hc.mono HB.out.size))).below hS'.1)).mono ?_
                  rintro e u ⟨rfl, hq⟩
                  rw [Hhc7.out]
                  exact hK.out _ hq
                -- 41: unOp Unnot 4 t65
                refine' chainP_readG (d := (some 66)) _ rfl (fun w' hS' => ?_) ?_; rotate_left
                · simp only [lookP, allP, Act.put, List.getElem?_cons_zero, List.getElem?_cons_succ, List.setIfInBounds_toArray, List.set_cons_zero, List.set_cons_succ]
                  refine ⟨by kernel_rfl, ?_⟩
                  (try dsimp only at hS')
                  go_simp
                  (try with_reducible rfl)
                iterate 2 (refine' chainP_read _ rfl rfl (fun w' hS' => ?_) ?_; rotate_left; · (simp only [lookP, allP, Act.put, List.getElem?_cons_zero, List.getElem?_cons_succ, List.setIfInBounds_toArray, List.set_cons_zero, List.set_cons_succ]; (try dsimp only at hS'); go_simp; (try with_reducible rfl)))
                -- 44: load 24 t6
                refine chainP_skip (d := (some 69)) rfl (fun w' hS' => ?_) ?_
                · simp only [lookP, allP, Act.put, List.getElem?_cons_zero, List.getElem?_cons_succ, List.setIfInBounds_toArray, List.set_cons_zero, List.set_cons_succ]
                  kernel_rfl
                -- 45: move t2
                refine chainP_skip (d := (some 70)) rfl (fun w' hS' => ?_) ?_
                · simp only [lookP, allP, Act.put, List.getElem?_cons_zero, List.getElem?_cons_succ, List.setIfInBounds_toArray, List.set_cons_zero, List.set_cons_succ]
                  kernel_rfl
                -- 46: move t3
                refine chainP_skip (d := (some 71)) rfl (fun w' hS' => ?_) ?_
                · simp only [lookP, allP, Act.put, List.getElem?_cons_zero, List.getElem?_cons_succ, List.setIfInBounds_toArray, List.set_cons_zero, List.set_cons_succ]
                  kernel_rfl
                -- 47: indexAddr 42 t70 t71
                refine chainP_skip (d := (some 72)) rfl (fun w' hS' => ?_) ?_
                · simp only [lookP, allP, Act.put, List.getElem?_cons_zero, List.getElem?_cons_succ, List.setIfInBounds_toArray, List.set_cons_zero, List.set_cons_succ]
                  kernel_rfl
                -- 48: load 31 t72
                refine chainP_skip (d := (some 73)) rfl (fun w' hS' => ?_) ?_
                · simp only [lookP, allP, Act.put, List.getElem?_cons_zero, List.getElem?_cons_succ, List.setIfInBounds_toArray, List.set_cons_zero, List.set_cons_succ]
                  kernel_rfl
                -- 49: move t4
                refine chainP_skip (d := (some 74)) rfl (fun w' hS' => ?_) ?_
                · simp only [lookP, allP, Act.put, List.getElem?_cons_zero, List.getElem?_cons_succ, List.setIfInBounds_toArray, List.set_cons_zero, List.set_cons_succ]
                  kernel_rfl
                -- 50: call { callee := value (func 91), args := #[t69, t73, t74], argTypes := #[24, 31, 3] }
                refine chainP_skip (d := (some 75)) rfl (fun w' hS' => ?_) ?_
                · simp only [lookP, allP, Act.put, List.getElem?_cons_zero, List.getElem?_cons_succ, List.setIfInBounds_toArray, List.set_cons_zero, List.set_cons_succ]
                  kernel_rfl
                -- 51: unOp Unnot 4 t75
                refine chainP_skip (d := (some 76)) rfl (fun w' hS' => ?_) ?_
                · simp only [lookP, allP, Act.put, List.getElem?_cons_zero, List.getElem?_cons_succ, List.setIfInBounds_toArray, List.set_cons_zero, List.set_cons_succ]
                  kernel_rfl
                -- 52: pick t68 (const (bool true)) t76
                refine' chainP_read (d := (some 77)) _ rfl rfl (fun w' hS' => ?_) ?_; rotate_left
                · simp only [lookP, allP, Act.put, List.getElem?_cons_zero, List.getElem?_cons_succ, List.setIfInBounds_toArray, List.set_cons_zero, List.set_cons_succ]
                  (try dsimp only at hS')
                  go_simp
                  (try with_reducible rfl)
                refine chainP_nil (fun u1 hS' => ?_)
                simp only [allP, Act.put, List.setIfInBounds_toArray, List.set_cons_zero, List.set_cons_succ]
                have hq1 := hS'.1
                clear hS'
                replace hc := Below.next hc hq1
                clear hq1 c0_0 c0_1 c0_2 yz_0 yz_1 yz_2 yz_3
                obtain ⟨c0_0, c0_1, c0_2, yz_0, yz_1, yz_2, yz_3⟩ := HCC.out _ hc
                go_wp2_with fail
                refine NoPanic.normal ?_
                have HRE1 := Lib.hid (HR1.out.below hc)
                clear HR1
                have HBE := Lib.hid (HB.out.trans (hc.mono HB.out.size))
                have r1_0 := HRE1.out.cell (i := 0) rfl
                have r1_1 := HRE1.out.cell (i := 1) rfl
                have r1_2 := HRE1.out.cell (i := 2) rfl
                have fr1 := fun j => HRE1.out.frozen j
                go_wp2_with fail
                have HRF := Lib.hid (((HRE1.out.set 0 ((.slice none 0 0))).set 1 ((.slice none 0 0))).set 2 ((.slice none 0 0)))
                have HBF := Lib.hid (((HBE.out.setCell (p := ⟨w.heap.size + 1, 0, none⟩) (by show w.heap.size ≤ w.heap.size + 1; omega) ((.slice none 0 0))).setCell (p := ⟨w.heap.size + 1, 1, none⟩) (by show w.heap.size ≤ w.heap.size + 1; omega) ((.slice none 0 0))).setCell (p := ⟨w.heap.size + 1, 2, none⟩) (by show w.heap.size ≤ w.heap.size + 1; omega) ((.slice none 0 0)))
                clear r1_0 r1_1 r1_2 fr1
                have r1_0 := HRF.out.cell (i := 0) rfl
                have r1_1 := HRF.out.cell (i := 1) rfl
                have r1_2 := HRF.out.cell (i := 2) rfl
                try (go_wp2_with fail)
                have HVB : Hid (ooB gr s l k x cs = false) := by unfold Hid; simp [ooB, Hhc1.out, hc2, Hhc3.out, Hhc5.out, Hhc7.out, HK3d.out, HLNd.out]
                have HPR : Hid (ooF gr s l k x cs = ⟨[], [], []⟩) := by unfold Hid ooF; rw [if_neg (by rw [HVB.out]; simp)]
                refine bodyPost_ret (v := .tuple #[.agg #[(.slice none 0 0), (.slice none 0 0), (.slice none 0 0)], .bool false]) (by simp [results, Try.results20, go_sem, r1_0, r1_1, r1_2]) rfl ⟨(by rw [HVB.out, HPR.out]; exact RetP.mk (OwnI.nil _ _) (OwnI.nil _ _) (OwnI.nil _ _)), HBF.out⟩
              | true =>
                have HCA : Hid (cs.all (expB gr) = true) := hc7
                have Hhc7 := Lib.hid hc7
                clear hc7
                cases hc8 : eqTrue gr z x with
                | false =>
                  have Hhc8 := Lib.hid hc8
                  clear hc8
                  try (go_wp2_with fail)
                  refine wp_region_noPanic ?_
                  refine wp_region_P (fun w' => w'.cell? ⟨w.heap.size, 0, none⟩ = some (.int .i64 gr.p) ∧ w'.cell? ⟨w.heap.size, 1, none⟩ = some (.int .i64 gr.q) ∧ w'.cell? ⟨w.heap.size, 2, none⟩ = some (.int .i64 gr.g) ∧ w'.cell? ⟨b_z, o_z + k.toNat * 4, none⟩ = some (.int .i64 z.g1) ∧ w'.cell? ⟨b_z, o_z + k.toNat * 4 + 1, none⟩ = some (.int .i64 z.y1) ∧ w'.cell? ⟨b_z, o_z + k.toNat * 4 + 2, none⟩ = some (.int .i64 z.g2) ∧ w'.cell? ⟨b_z, o_z + k.toNat * 4 + 3, none⟩ = some (.int .i64 z.y2)) 55 [(0, []), (1, [0]), (2, [0]), (3, [0]), (4, [0]), (5, [0, 1]), (6, [0, 2]), (7, [3, 0]), (8, [0]), (9, [0]), (10, [1]), (11, [1, 0, 2]), (12, [0, 3]), (13, [4, 0]), (14, [0]), (15, [0]), (16, [1]), (17, [0, 2]), (18, [0, 3]), (19, [3, 0, 4]), (20, [0, 5]), (21, [6, 0]), (22, [0]), (23, [0]), (24, [1]), (25, [1, 0, 2]), (26, [0, 3]), (27, [4, 0]), (28, [0]), (29, [0]), (30, [0, 1]), (31, [2]), (32, [0, 3]), (33, [0, 4]), (34, [0, 5]), (35, [4, 0, 6]), (36, [7, 0]), (37, [0]), (38, [0]), (39, [1]), (40, [1, 0, 2]), (41, [0, 3]), (42, [4, 0]), (43, [0]), (44, [0]), (45, [1]), (46, [2]), (47, [1, 0, 3]), (48, [0, 4]), (49, [5]), (50, [5, 1, 0, 6]), (51, [0, 7]), (52, [8, 0])] [] (by kernel_rfl) (by kernel_rfl) (by kernel_rfl) rfl (fun _ _ _ _ h => h) (fun w' h => ⟨box_at c0_0 h, box_at c0_1 h, box_at c0_2 h, box_at yz_0 h, box_at yz_1 h, box_at yz_2 h, box_at yz_3 h⟩) ?_
                  simp only [pickP, pickN, List.getElem?_cons_zero, List.getElem?_cons_succ]
                  -- 0: load 24 t6
                  refine' chainP_read (d := (some 25)) _ rfl rfl (fun w' hS' => ?_) ?_; rotate_left
                  · simp only [lookP, allP, Act.put, List.getElem?_cons_zero, List.getElem?_cons_succ, List.setIfInBounds_toArray, List.set_cons_zero, List.set_cons_succ]
                    (try dsimp only at hS')
                    go_simp
                    (try with_reducible rfl)
                  -- 1: call { callee := value (func 90), args := #[t25], argTypes := #[24] }
                  refine chainP_call (d := (some 26)) (.bool true) rfl rfl (fun w' hS' => ?_) ?_
                  · simp only [lookP, allP, Act.put, List.getElem?_cons_zero, List.getElem?_cons_succ, List.setIfInBounds_toArray, List.set_cons_zero, List.set_cons_succ]
                    intro K hK
                    go_simp
                    go_at_call 90
                    refine (impl_IsValidGroup gr _).mono ?_
                    rintro e u ⟨rfl, hq⟩
                    rw [Hhc1.out]
                    exact hK.out _ hq
                  iterate 2 (refine' chainP_read _ rfl rfl (fun w' hS' => ?_) ?_; rotate_left; · (simp only [lookP, allP, Act.put, List.getElem?_cons_zero, List.getElem?_cons_succ, List.setIfInBounds_toArray, List.set_cons_zero, List.set_cons_succ]; (try dsimp only at hS'); go_simp; (try with_reducible rfl)))
                  -- 4: move t1
                  refine' chainP_readG (d := (some 29)) _ rfl (fun w' hS' => ?_) ?_; rotate_left
                  · simp only [lookP, allP, Act.put, List.getElem?_cons_zero, List.getElem?_cons_succ, List.setIfInBounds_toArray, List.set_cons_zero, List.set_cons_succ]
                    refine ⟨by kernel_rfl, ?_⟩
                    (try dsimp only at hS')
                    go_simp
                    (try with_reducible rfl)
                  -- 5: call { callee := value (func 99), args := #[t29], argTypes := #[9] }
                  refine chainP_callG (d := (some 30)) (.bool true) rfl (fun w' hS' => ?_) ?_
                  · simp only [lookP, allP, Act.put, List.getElem?_cons_zero, List.getElem?_cons_succ, List.setIfInBounds_toArray, List.set_cons_zero, List.set_cons_succ]
                    refine ⟨by kernel_rfl, ?_⟩
                    intro K hK
                    go_simp
                    go_at_call 99
                    refine (impl_isLabel s _ HS3.out).mono ?_
                    rintro e u ⟨rfl, rfl⟩
                    rw [hc2]
                    exact hK.out _ (Below.refl _ _)
                  -- 6: unOp Unnot 4 t30
                  refine' chainP_readG (d := (some 31)) _ rfl (fun w' hS' => ?_) ?_; rotate_left
                  · simp only [lookP, allP, Act.put, List.getElem?_cons_zero, List.getElem?_cons_succ, List.setIfInBounds_toArray, List.set_cons_zero, List.set_cons_succ]
                    refine ⟨by kernel_rfl, ?_⟩
                    (try dsimp only at hS')
                    go_simp
                    (try with_reducible rfl)
                  iterate 2 (refine' chainP_read _ rfl rfl (fun w' hS' => ?_) ?_; rotate_left; · (simp only [lookP, allP, Act.put, List.getElem?_cons_zero, List.getElem?_cons_succ, List.setIfInBounds_toArray, List.set_cons_zero, List.set_cons_succ]; (try dsimp only at hS'); go_simp; (try with_reducible rfl)))
                  -- 9: load 24 t6
                  refine' chainP_readG (d := (some 34)) _ rfl (fun w' hS' => ?_) ?_; rotate_left
                  · simp only [lookP, allP, Act.put, List.getElem?_cons_zero, List.getElem?_cons_succ, List.setIfInBounds_toArray, List.set_cons_zero, List.set_cons_succ]
                    refine ⟨by kernel_rfl, ?_⟩
                    (try dsimp only at hS')
                    go_simp
                    (try with_reducible rfl)
                  -- 10: move t2
                  refine' chainP_readG (d := (some 35)) _ rfl (fun w' hS' => ?_) ?_; rotate_left
                  · simp only [lookP, allP, Act.put, List.getElem?_cons_zero, List.getElem?_cons_succ, List.setIfInBounds_toArray, List.set_cons_zero, List.set_cons_succ]
                    refine ⟨by kernel_rfl, ?_⟩
                    (try dsimp only at hS')
                    go_simp
                    (try with_reducible rfl)
                  -- 11: call { callee := value (func 100), args := #[t34, t35], argTypes := #[24, 42] }
                  refine chainP_callG (d := (some 36)) (.bool true) rfl (fun w' hS' => ?_) ?_
                  · simp only [lookP, allP, Act.put, List.getElem?_cons_zero, List.getElem?_cons_succ, List.setIfInBounds_toArray, List.set_cons_zero, List.set_cons_succ]
                    refine ⟨by kernel_rfl, ?_⟩
                    intro K hK
                    go_simp
                    go_at_call 100
                    refine (impl_areStatements gr _ l _ HG.out ((Hev.out.below (HB.out.trans (hc.mono HB.out.size))).below hS'.1)).mono ?_
                    rintro e u ⟨rfl, hq⟩
                    rw [Hhc3.out]
                    exact hK.out _ hq
                  -- 12: unOp Unnot 4 t36
                  refine' chainP_readG (d := (some 37)) _ rfl (fun w' hS' => ?_) ?_; rotate_left
                  · simp only [lookP, allP, Act.put, List.getElem?_cons_zero, List.getElem?_cons_succ, List.setIfInBounds_toArray, List.set_cons_zero, List.set_cons_succ]
                    refine ⟨by kernel_rfl, ?_⟩
                    (try dsimp only at hS')
                    go_simp
                    (try with_reducible rfl)
                  iterate 2 (refine' chainP_read _ rfl rfl (fun w' hS' => ?_) ?_; rotate_left; · (simp only [lookP, allP, Act.put, List.getElem?_cons_zero, List.getElem?_cons_succ, List.setIfInBounds_toArray, List.set_cons_zero, List.set_cons_succ]; (try dsimp only at hS'); go_simp; (try with_reducible rfl)))
                  -- 15: move t3
                  refine' chainP_readG (d := (some 40)) _ rfl (fun w' hS' => ?_) ?_; rotate_left
                  · simp only [lookP, allP, Act.put, List.getElem?_cons_zero, List.getElem?_cons_succ, List.setIfInBounds_toArray, List.set_cons_zero, List.set_cons_succ]
                    refine ⟨by kernel_rfl, ?_⟩
                    (try dsimp only at hS')
                    go_simp
                    (try with_reducible rfl)
                  -- 16: move t2
                  refine' chainP_readG (d := (some 41)) _ rfl (fun w' hS' => ?_) ?_; rotate_left
                  · simp only [lookP, allP, Act.put, List.getElem?_cons_zero, List.getElem?_cons_succ, List.setIfInBounds_toArray, List.set_cons_zero, List.set_cons_succ]
                    refine ⟨by kernel_rfl, ?_⟩
                    (try dsimp only at hS')
                    go_simp
                    (try with_reducible rfl)
                  -- 17: call { callee := builtin Builtin.len, args := #[t41], argTypes := #[42] }
                  refine' chainP_readG (d := (some 42)) _ rfl (fun w' hS' => ?_) ?_; rotate_left
                  · simp only [lookP, allP, Act.put, List.getElem?_cons_zero, List.getElem?_cons_succ, List.setIfInBounds_toArray, List.set_cons_zero, List.set_cons_succ]
                    refine ⟨by kernel_rfl, ?_⟩
                    (try dsimp only at hS')
                    go_simp
                    (try with_reducible rfl)
                  -- 18: binOp Binsub 3 t42 (const (int i64 1)) 3
                  refine' chainP_readG (d := (some 43)) _ rfl (fun w' hS' => ?_) ?_; rotate_left
                  · simp only [lookP, allP, Act.put, List.getElem?_cons_zero, List.getElem?_cons_succ, List.setIfInBounds_toArray, List.set_cons_zero, List.set_cons_succ]
                    refine ⟨by kernel_rfl, ?_⟩
                    (try dsimp only at hS')
                    go_simp
                    (try with_reducible rfl)
                  -- 19: call { callee := value (func 101), args := #[t40, const (int i64 0), t43], argTypes := #[3, 3, 3] }
                  refine chainP_callG (d := (some 44)) (.bool true) rfl (fun w' hS' => ?_) ?_
                  · simp only [lookP, allP, Act.put, List.getElem?_cons_zero, List.getElem?_cons_succ, List.setIfInBounds_toArray, List.set_cons_zero, List.set_cons_succ]
                    refine ⟨by kernel_rfl, ?_⟩
                    intro K hK
                    go_simp
                    go_at_call 101
                    refine (impl_within k 0 ((evn : Int) - 1) _).mono ?_
                    rintro e u ⟨rfl, rfl⟩
                    rw [hc4]
                    exact hK.out _ (Below.refl _ _)
                  -- 20: unOp Unnot 4 t44
                  refine' chainP_readG (d := (some 45)) _ rfl (fun w' hS' => ?_) ?_; rotate_left
                  · simp only [lookP, allP, Act.put, List.getElem?_cons_zero, List.getElem?_cons_succ, List.setIfInBounds_toArray, List.set_cons_zero, List.set_cons_succ]
                    refine ⟨by kernel_rfl, ?_⟩
                    (try dsimp only at hS')
                    go_simp
                    (try with_reducible rfl)
                  iterate 2 (refine' chainP_read _ rfl rfl (fun w' hS' => ?_) ?_; rotate_left; · (simp only [lookP, allP, Act.put, List.getElem?_cons_zero, List.getElem?_cons_succ, List.setIfInBounds_toArray, List.set_cons_zero, List.set_cons_succ]; (try dsimp only at hS'); go_simp; (try with_reducible rfl)))
                  -- 23: load 24 t6
                  refine' chainP_readG (d := (some 48)) _ rfl (fun w' hS' => ?_) ?_; rotate_left
                  · simp only [lookP, allP, Act.put, List.getElem?_cons_zero, List.getElem?_cons_succ, List.setIfInBounds_toArray, List.set_cons_zero, List.set_cons_succ]
                    refine ⟨by kernel_rfl, ?_⟩
                    (try dsimp only at hS')
                    go_simp
                    (try with_reducible rfl)
                  -- 24: move t4
                  refine' chainP_readG (d := (some 49)) _ rfl (fun w' hS' => ?_) ?_; rotate_left
                  · simp only [lookP, allP, Act.put, List.getElem?_cons_zero, List.getElem?_cons_succ, List.setIfInBounds_toArray, List.set_cons_zero, List.set_cons_succ]
                    refine ⟨by kernel_rfl, ?_⟩
                    (try dsimp only at hS')
                    go_simp
                    (try with_reducible rfl)
                  -- 25: call { callee := value (func 71), args := #[t48, t49], argTypes := #[24, 3] }
                  refine chainP_callG (d := (some 50)) (.bool true) rfl (fun w' hS' => ?_) ?_
                  · simp only [lookP, allP, Act.put, List.getElem?_cons_zero, List.getElem?_cons_succ, List.setIfInBounds_toArray, List.set_cons_zero, List.set_cons_succ]
                    refine ⟨by kernel_rfl, ?_⟩
                    intro K hK
                    go_simp
                    go_at_call 71
                    refine (impl_isExp gr x _ HG.out).mono ?_
                    rintro e u ⟨rfl, hq⟩
                    rw [Hhc5.out]
                    exact hK.out _ hq
                  -- 26: unOp Unnot 4 t50
                  refine' chainP_readG (d := (some 51)) _ rfl (fun w' hS' => ?_) ?_; rotate_left
                  · simp only [lookP, allP, Act.put, List.getElem?_cons_zero, List.getElem?_cons_succ, List.setIfInBounds_toArray, List.set_cons_zero, List.set_cons_succ]
                    refine ⟨by kernel_rfl, ?_⟩
                    (try dsimp only at hS')
                    go_simp
                    (try with_reducible rfl)
                  iterate 2 (refine' chainP_read _ rfl rfl (fun w' hS' => ?_) ?_; rotate_left; · (simp only [lookP, allP, Act.put, List.getElem?_cons_zero, List.getElem?_cons_succ, List.setIfInBounds_toArray, List.set_cons_zero, List.set_cons_succ]; (try dsimp only at hS'); go_simp; (try with_reducible rfl)))
                  -- 29: move t5
                  refine' chainP_readG (d := (some 54)) _ rfl (fun w' hS' => ?_) ?_; rotate_left
                  · simp only [lookP, allP, Act.put, List.getElem?_cons_zero, List.getElem?_cons_succ, List.setIfInBounds_toArray, List.set_cons_zero, List.set_cons_succ]
                    refine ⟨by kernel_rfl, ?_⟩
                    (try dsimp only at hS')
                    go_simp
                    (try with_reducible rfl)
                  -- 30: call { callee := builtin Builtin.len, args := #[t54], argTypes := #[43] }
                  refine' chainP_readG (d := (some 55)) _ rfl (fun w' hS' => ?_) ?_; rotate_left
                  · simp only [lookP, allP, Act.put, List.getElem?_cons_zero, List.getElem?_cons_succ, List.setIfInBounds_toArray, List.set_cons_zero, List.set_cons_succ]
                    refine ⟨by kernel_rfl, ?_⟩
                    (try dsimp only at hS')
                    go_simp
                    (try with_reducible rfl)
                  -- 31: move t2
                  refine' chainP_readG (d := (some 56)) _ rfl (fun w' hS' => ?_) ?_; rotate_left
                  · simp only [lookP, allP, Act.put, List.getElem?_cons_zero, List.getElem?_cons_succ, List.setIfInBounds_toArray, List.set_cons_zero, List.set_cons_succ]
                    refine ⟨by kernel_rfl, ?_⟩
                    (try dsimp only at hS')
                    go_simp
                    (try with_reducible rfl)
                  -- 32: call { callee := builtin Builtin.len, args := #[t56], argTypes := #[42] }
                  refine' chainP_readG (d := (some 57)) _ rfl (fun w' hS' => ?_) ?_; rotate_left
                  · simp only [lookP, allP, Act.put, List.getElem?_cons_zero, List.getElem?_cons_succ, List.setIfInBounds_toArray, List.set_cons_zero, List.set_cons_succ]
                    refine ⟨by kernel_rfl, ?_⟩
                    (try dsimp only at hS')
                    go_simp
                    (try with_reducible rfl)
                  -- 33: binOp Binmul 3 (const (int i64 2)) t57 3
                  refine' chainP_readG (d := (some 58)) _ rfl (fun w' hS' => ?_) ?_; rotate_left
                  · simp only [lookP, allP, Act.put, List.getElem?_cons_zero, List.getElem?_cons_succ, List.setIfInBounds_toArray, List.set_cons_zero, List.set_cons_succ]
                    refine ⟨by kernel_rfl, ?_⟩
                    (try dsimp only at hS')
                    go_simp
                    (try with_reducible rfl)
                  -- 34: binOp Binsub 3 t58 (const (int i64 1)) 3
                  refine' chainP_readG (d := (some 59)) _ rfl (fun w' hS' => ?_) ?_; rotate_left
                  · simp only [lookP, allP, Act.put, List.getElem?_cons_zero, List.getElem?_cons_succ, List.setIfInBounds_toArray, List.set_cons_zero, List.set_cons_succ]
                    refine ⟨by kernel_rfl, ?_⟩
                    (try dsimp only at hS')
                    go_simp
                    (try with_reducible rfl)
                  -- 35: binOp Binneq 3 t55 t59 3
                  refine' chainP_readG (d := (some 60)) _ rfl (fun w' hS' => ?_) ?_; rotate_left
                  · simp only [lookP, allP, Act.put, List.getElem?_cons_zero, List.getElem?_cons_succ, List.setIfInBounds_toArray, List.set_cons_zero, List.set_cons_succ]
                    refine ⟨by kernel_rfl, ?_⟩
                    (try dsimp only at hS')
                    go_simp
                    (try with_reducible rfl)
                  iterate 2 (refine' chainP_read _ rfl rfl (fun w' hS' => ?_) ?_; rotate_left; · (simp only [lookP, allP, Act.put, List.getElem?_cons_zero, List.getElem?_cons_succ, List.setIfInBounds_toArray, List.set_cons_zero, List.set_cons_succ]; (try dsimp only at hS'); go_simp; (try with_reducible rfl)))
                  -- 38: load 24 t6
                  refine' chainP_readG (d := (some 63)) _ rfl (fun w' hS' => ?_) ?_; rotate_left
                  · simp only [lookP, allP, Act.put, List.getElem?_cons_zero, List.getElem?_cons_succ, List.setIfInBounds_toArray, List.set_cons_zero, List.set_cons_succ]
                    refine ⟨by kernel_rfl, ?_⟩
                    (try dsimp only at hS')
                    go_simp
                    (try with_reducible rfl)
                  -- 39: move t5
                  refine' chainP_readG (d := (some 64)) _ rfl (fun w' hS' => ?_) ?_; rotate_left
                  · simp only [lookP, allP, Act.put, List.getElem?_cons_zero, List.getElem?_cons_succ, List.setIfInBounds_toArray, List.set_cons_zero, List.set_cons_succ]
                    refine ⟨by kernel_rfl, ?_⟩
                    (try dsimp only at hS')
                    go_simp
                    (try with_reducible rfl)
                  -- 40: call { callee := value (func 102), args := #[t63, t64], argTypes := #[24, 43] }
                  refine chainP_callG (d := (some 65)) (.bool true) rfl (fun w' hS' => ?_) ?_
                  · simp only [lookP, allP, Act.put, List.getElem?_cons_zero, List.getElem?_cons_succ, List.setIfInBounds_toArray, List.set_cons_zero, List.set_cons_succ]
                    refine ⟨by kernel_rfl, ?_⟩
                    intro K hK
                    go_simp
                    go_at_call 102
                    refine (impl_areExps gr _ cs _ HG.out ((Hcv.out.below (HB.out.trans (hc.mono HB.out.size))).below hS'.1)).mono ?_
                    rintro e u ⟨rfl, hq⟩
                    rw [Hhc7.out]
                    exact hK.out _ hq
                  -- 41: unOp Unnot 4 t65
                  refine' chainP_readG (d := (some 66)) _ rfl (fun w' hS' => ?_) ?_; rotate_left
                  · simp only [lookP, allP, Act.put, List.getElem?_cons_zero, List.getElem?_cons_succ, List.setIfInBounds_toArray, List.set_cons_zero, List.set_cons_succ]
                    refine ⟨by kernel_rfl, ?_⟩
                    (try dsimp only at hS')
                    go_simp
                    (try with_reducible rfl)
                  iterate 2 (refine' chainP_read _ rfl rfl (fun w' hS' => ?_) ?_; rotate_left; · (simp only [lookP, allP, Act.put, List.getElem?_cons_zero, List.getElem?_cons_succ, List.setIfInBounds_toArray, List.set_cons_zero, List.set_cons_succ]; (try dsimp only at hS'); go_simp; (try with_reducible rfl)))
                  -- 44: load 24 t6
                  refine' chainP_readG (d := (some 69)) _ rfl (fun w' hS' => ?_) ?_; rotate_left
                  · simp only [lookP, allP, Act.put, List.getElem?_cons_zero, List.getElem?_cons_succ, List.setIfInBounds_toArray, List.set_cons_zero, List.set_cons_succ]
                    refine ⟨by kernel_rfl, ?_⟩
                    (try dsimp only at hS')
                    go_simp
                    (try with_reducible rfl)
                  -- 45: move t2
                  refine' chainP_readG (d := (some 70)) _ rfl (fun w' hS' => ?_) ?_; rotate_left
                  · simp only [lookP, allP, Act.put, List.getElem?_cons_zero, List.getElem?_cons_succ, List.setIfInBounds_toArray, List.set_cons_zero, List.set_cons_succ]
                    refine ⟨by kernel_rfl, ?_⟩
                    (try dsimp only at hS')
                    go_simp
                    (try with_reducible rfl)
                  -- 46: move t3
                  refine' chainP_readG (d := (some 71)) _ rfl (fun w' hS' => ?_) ?_; rotate_left
                  · simp only [lookP, allP, Act.put, List.getElem?_cons_zero, List.getElem?_cons_succ, List.setIfInBounds_toArray, List.set_cons_zero, List.set_cons_succ]
                    refine ⟨by kernel_rfl, ?_⟩
                    (try dsimp only at hS')
                    go_simp
                    (try with_reducible rfl)
                  -- 47: indexAddr 42 t70 t71
                  refine' chainP_readG (d := (some 72)) _ rfl (fun w' hS' => ?_) ?_; rotate_left
                  · simp only [lookP, allP, Act.put, List.getElem?_cons_zero, List.getElem?_cons_succ, List.setIfInBounds_toArray, List.set_cons_zero, List.set_cons_succ]
                    refine ⟨by kernel_rfl, ?_⟩
                    (try dsimp only at hS')
                    go_simp
                    (try with_reducible rfl)
                  -- 48: load 31 t72
                  refine' chainP_readG (d := (some 73)) _ rfl (fun w' hS' => ?_) ?_; rotate_left
                  · simp only [lookP, allP, Act.put, List.getElem?_cons_zero, List.getElem?_cons_succ, List.setIfInBounds_toArray, List.set_cons_zero, List.set_cons_succ]
                    refine ⟨by kernel_rfl, ?_⟩
                    (try dsimp only at hS')
                    go_simp
                    (try with_reducible rfl)
                  -- 49: move t4
                  refine' chainP_readG (d := (some 74)) _ rfl (fun w' hS' => ?_) ?_; rotate_left
                  · simp only [lookP, allP, Act.put, List.getElem?_cons_zero, List.getElem?_cons_succ, List.setIfInBounds_toArray, List.set_cons_zero, List.set_cons_succ]
                    refine ⟨by kernel_rfl, ?_⟩
                    (try dsimp only at hS')
                    go_simp
                    (try with_reducible rfl)
                  -- 50: call { callee := value (func 91), args := #[t69, t73, t74], argTypes := #[24, 31, 3] }
                  refine chainP_callG (d := (some 75)) (.bool false) rfl (fun w' hS' => ?_) ?_
                  · simp only [lookP, allP, Act.put, List.getElem?_cons_zero, List.getElem?_cons_succ, List.setIfInBounds_toArray, List.set_cons_zero, List.set_cons_succ]
                    refine ⟨by kernel_rfl, ?_⟩
                    intro K hK
                    go_simp
                    go_at_call 91
                    refine (impl_isTrue gr z x _ HG.out HZE.out HXS.out).mono ?_
                    rintro e u ⟨rfl, hq⟩
                    rw [Hhc8.out]
                    exact hK.out _ hq
                  -- 51: unOp Unnot 4 t75
                  refine' chainP_readG (d := (some 76)) _ rfl (fun w' hS' => ?_) ?_; rotate_left
                  · simp only [lookP, allP, Act.put, List.getElem?_cons_zero, List.getElem?_cons_succ, List.setIfInBounds_toArray, List.set_cons_zero, List.set_cons_succ]
                    refine ⟨by kernel_rfl, ?_⟩
                    (try dsimp only at hS')
                    go_simp
                    (try with_reducible rfl)
                  -- 52: pick t68 (const (bool true)) t76
                  refine' chainP_read (d := (some 77)) _ rfl rfl (fun w' hS' => ?_) ?_; rotate_left
                  · simp only [lookP, allP, Act.put, List.getElem?_cons_zero, List.getElem?_cons_succ, List.setIfInBounds_toArray, List.set_cons_zero, List.set_cons_succ]
                    (try dsimp only at hS')
                    go_simp
                    (try with_reducible rfl)
                  refine chainP_nil (fun u1 hS' => ?_)
                  simp only [allP, Act.put, List.setIfInBounds_toArray, List.set_cons_zero, List.set_cons_succ]
                  have hq1 := hS'.1
                  clear hS'
                  replace hc := Below.next hc hq1
                  clear hq1 c0_0 c0_1 c0_2 yz_0 yz_1 yz_2 yz_3
                  obtain ⟨c0_0, c0_1, c0_2, yz_0, yz_1, yz_2, yz_3⟩ := HCC.out _ hc
                  go_wp2_with fail
                  refine NoPanic.normal ?_
                  have HRE1 := Lib.hid (HR1.out.below hc)
                  clear HR1
                  have HBE := Lib.hid (HB.out.trans (hc.mono HB.out.size))
                  have r1_0 := HRE1.out.cell (i := 0) rfl
                  have r1_1 := HRE1.out.cell (i := 1) rfl
                  have r1_2 := HRE1.out.cell (i := 2) rfl
                  have fr1 := fun j => HRE1.out.frozen j
                  go_wp2_with fail
                  have HRF := Lib.hid (((HRE1.out.set 0 ((.slice none 0 0))).set 1 ((.slice none 0 0))).set 2 ((.slice none 0 0)))
                  have HBF := Lib.hid (((HBE.out.setCell (p := ⟨w.heap.size + 1, 0, none⟩) (by show w.heap.size ≤ w.heap.size + 1; omega) ((.slice none 0 0))).setCell (p := ⟨w.heap.size + 1, 1, none⟩) (by show w.heap.size ≤ w.heap.size + 1; omega) ((.slice none 0 0))).setCell (p := ⟨w.heap.size + 1, 2, none⟩) (by show w.heap.size ≤ w.heap.size + 1; omega) ((.slice none 0 0)))
                  clear r1_0 r1_1 r1_2 fr1
                  have r1_0 := HRF.out.cell (i := 0) rfl
                  have r1_1 := HRF.out.cell (i := 1) rfl
                  have r1_2 := HRF.out.cell (i := 2) rfl
                  try (go_wp2_with fail)
                  have HVB : Hid (ooB gr s l k x cs = false) := by unfold Hid; simp [ooB, Hhc1.out, hc2, Hhc3.out, Hhc5.out, Hhc7.out, Hhc8.out, HK3d.out, HLNd.out, HZQ.out]
                  have HPR : Hid (ooF gr s l k x cs = ⟨[], [], []⟩) := by unfold Hid ooF; rw [if_neg (by rw [HVB.out]; simp)]
                  refine bodyPost_ret (v := .tuple #[.agg #[(.slice none 0 0), (.slice none 0 0), (.slice none 0 0)], .bool false]) (by simp [results, Try.results20, go_sem, r1_0, r1_1, r1_2]) rfl ⟨(by rw [HVB.out, HPR.out]; exact RetP.mk (OwnI.nil _ _) (OwnI.nil _ _) (OwnI.nil _ _)), HBF.out⟩
                | true =>
                  have Hhc8 := Lib.hid hc8
                  clear hc8
                  try (go_wp2_with fail)
                  refine wp_region_noPanic ?_
                  refine wp_region_P (fun w' => w'.cell? ⟨w.heap.size, 0, none⟩ = some (.int .i64 gr.p) ∧ w'.cell? ⟨w.heap.size, 1, none⟩ = some (.int .i64 gr.q) ∧ w'.cell? ⟨w.heap.size, 2, none⟩ = some (.int .i64 gr.g) ∧ w'.cell? ⟨b_z, o_z + k.toNat * 4, none⟩ = some (.int .i64 z.g1) ∧ w'.cell? ⟨b_z, o_z + k.toNat * 4 + 1, none⟩ = some (.int .i64 z.y1) ∧ w'.cell? ⟨b_z, o_z + k.toNat * 4 + 2, none⟩ = some (.int .i64 z.g2) ∧ w'.cell? ⟨b_z, o_z + k.toNat * 4 + 3, none⟩ = some (.int .i64 z.y2)) 55 [(0, []), (1, [0]), (2, [0]), (3, [0]), (4, [0]), (5, [0, 1]), (6, [0, 2]), (7, [3, 0]), (8, [0]), (9, [0]), (10, [1]), (11, [1, 0, 2]), (12, [0, 3]), (13, [4, 0]), (14, [0]), (15, [0]), (16, [1]), (17, [0, 2]), (18, [0, 3]), (19, [3, 0, 4]), (20, [0, 5]), (21, [6, 0]), (22, [0]), (23, [0]), (24, [1]), (25, [1, 0, 2]), (26, [0, 3]), (27, [4, 0]), (28, [0]), (29, [0]), (30, [0, 1]), (31, [2]), (32, [0, 3]), (33, [0, 4]), (34, [0, 5]), (35, [4, 0, 6]), (36, [7, 0]), (37, [0]), (38, [0]), (39, [1]), (40, [1, 0, 2]), (41, [0, 3]), (42, [4, 0]), (43, [0]), (44, [0]), (45, [1]), (46, [2]), (47, [1, 0, 3]), (48, [0, 4]), (49, [5]), (50, [5, 1, 0, 6]), (51, [0, 7]), (52, [8, 0])] [] (by kernel_rfl) (by kernel_rfl) (by kernel_rfl) rfl (fun _ _ _ _ h => h) (fun w' h => ⟨box_at c0_0 h, box_at c0_1 h, box_at c0_2 h, box_at yz_0 h, box_at yz_1 h, box_at yz_2 h, box_at yz_3 h⟩) ?_
                  simp only [pickP, pickN, List.getElem?_cons_zero, List.getElem?_cons_succ]
                  -- 0: load 24 t6
                  refine' chainP_read (d := (some 25)) _ rfl rfl (fun w' hS' => ?_) ?_; rotate_left
                  · simp only [lookP, allP, Act.put, List.getElem?_cons_zero, List.getElem?_cons_succ, List.setIfInBounds_toArray, List.set_cons_zero, List.set_cons_succ]
                    (try dsimp only at hS')
                    go_simp
                    (try with_reducible rfl)
                  -- 1: call { callee := value (func 90), args := #[t25], argTypes := #[24] }
                  refine chainP_call (d := (some 26)) (.bool true) rfl rfl (fun w' hS' => ?_) ?_
                  · simp only [lookP, allP, Act.put, List.getElem?_cons_zero, List.getElem?_cons_succ, List.setIfInBounds_toArray, List.set_cons_zero, List.set_cons_succ]
                    intro K hK
                    go_simp
                    go_at_call 90
                    refine (impl_IsValidGroup gr _).mono ?_
                    rintro e u ⟨rfl, hq⟩
                    rw [Hhc1.out]
                    exact hK.out _ hq
                  iterate 2 (refine' chainP_read _ rfl rfl (fun w' hS' => ?_) ?_; rotate_left; · (simp only [lookP, allP, Act.put, List.getElem?_cons_zero, List.getElem?_cons_succ, List.setIfInBounds_toArray, List.set_cons_zero, List.set_cons_succ]; (try dsimp only at hS'); go_simp; (try with_reducible rfl)))
                  -- 4: move t1
                  refine' chainP_readG (d := (some 29)) _ rfl (fun w' hS' => ?_) ?_; rotate_left
                  · simp only [lookP, allP, Act.put, List.getElem?_cons_zero, List.getElem?_cons_succ, List.setIfInBounds_toArray, List.set_cons_zero, List.set_cons_succ]
                    refine ⟨by kernel_rfl, ?_⟩
                    (try dsimp only at hS')
                    go_simp
                    (try with_reducible rfl)
                  -- 5: call { callee := value (func 99), args := #[t29], argTypes := #[9] }
                  refine chainP_callG (d := (some 30)) (.bool true) rfl (fun w' hS' => ?_) ?_
                  · simp only [lookP, allP, Act.put, List.getElem?_cons_zero, List.getElem?_cons_succ, List.setIfInBounds_toArray, List.set_cons_zero, List.set_cons_succ]
                    refine ⟨by kernel_rfl, ?_⟩
                    intro K hK
                    go_simp
                    go_at_call 99
                    refine (impl_isLabel s _ HS3.out).mono ?_
                    rintro e u ⟨rfl, rfl⟩
                    rw [hc2]
                    exact hK.out _ (Below.refl _ _)
                  -- 6: unOp Unnot 4 t30
                  refine' chainP_readG (d := (some 31)) _ rfl (fun w' hS' => ?_) ?_; rotate_left
                  · simp only [lookP, allP, Act.put, List.getElem?_cons_zero, List.getElem?_cons_succ, List.setIfInBounds_toArray, List.set_cons_zero, List.set_cons_succ]
                    refine ⟨by kernel_rfl, ?_⟩
                    (try dsimp only at hS')
                    go_simp
                    (try with_reducible rfl)
                  iterate 2 (refine' chainP_read _ rfl rfl (fun w' hS' => ?_) ?_; rotate_left; · (simp only [lookP, allP, Act.put, List.getElem?_cons_zero, List.getElem?_cons_succ, List.setIfInBounds_toArray, List.set_cons_zero, List.set_cons_succ]; (try dsimp only at hS'); go_simp; (try with_reducible rfl)))
                  -- 9: load 24 t6
                  refine' chainP_readG (d := (some 34)) _ rfl (fun w' hS' => ?_) ?_; rotate_left
                  · simp only [lookP, allP, Act.put, List.getElem?_cons_zero, List.getElem?_cons_succ, List.setIfInBounds_toArray, List.set_cons_zero, List.set_cons_succ]
                    refine ⟨by kernel_rfl, ?_⟩
                    (try dsimp only at hS')
                    go_simp
                    (try with_reducible rfl)
                  -- 10: move t2
                  refine' chainP_readG (d := (some 35)) _ rfl (fun w' hS' => ?_) ?_; rotate_left
                  · simp only [lookP, allP, Act.put, List.getElem?_cons_zero, List.getElem?_cons_succ, List.setIfInBounds_toArray, List.set_cons_zero, List.set_cons_succ]
                    refine ⟨by kernel_rfl, ?_⟩
                    (try dsimp only at hS')
                    go_simp
                    (try with_reducible rfl)
                  -- 11: call { callee := value (func 100), args := #[t34, t35], argTypes := #[24, 42] }
                  refine chainP_callG (d := (some 36)) (.bool true) rfl (fun w' hS' => ?_) ?_
                  · simp only [lookP, allP, Act.put, List.getElem?_cons_zero, List.getElem?_cons_succ, List.setIfInBounds_toArray, List.set_cons_zero, List.set_cons_succ]
                    refine ⟨by kernel_rfl, ?_⟩
                    intro K hK
                    go_simp
                    go_at_call 100
                    refine (impl_areStatements gr _ l _ HG.out ((Hev.out.below (HB.out.trans (hc.mono HB.out.size))).below hS'.1)).mono ?_
                    rintro e u ⟨rfl, hq⟩
                    rw [Hhc3.out]
                    exact hK.out _ hq
                  -- 12: unOp Unnot 4 t36
                  refine' chainP_readG (d := (some 37)) _ rfl (fun w' hS' => ?_) ?_; rotate_left
                  · simp only [lookP, allP, Act.put, List.getElem?_cons_zero, List.getElem?_cons_succ, List.setIfInBounds_toArray, List.set_cons_zero, List.set_cons_succ]
                    refine ⟨by kernel_rfl, ?_⟩
                    (try dsimp only at hS')
                    go_simp
                    (try with_reducible rfl)
                  iterate 2 (refine' chainP_read _ rfl rfl (fun w' hS' => ?_) ?_; rotate_left; · (simp only [lookP, allP, Act.put, List.getElem?_cons_zero, List.getElem?_cons_succ, List.setIfInBounds_toArray, List.set_cons_zero, List.set_cons_succ]; (try dsimp only at hS'); go_simp; (try with_reducible rfl)))
                  -- 15: move t3
                  refine' chainP_readG (d := (some 40)) _ rfl (fun w' hS' => ?_) ?_; rotate_left
                  · simp only [lookP, allP, Act.put, List.getElem?_cons_zero, List.getElem?_cons_succ, List.setIfInBounds_toArray, List.set_cons_zero, List.set_cons_succ]
                    refine ⟨by kernel_rfl, ?_⟩
                    (try dsimp only at hS')
                    go_simp
                    (try with_reducible rfl)
                  -- 16: move t2
                  refine' chainP_readG (d := (some 41)) _ rfl (fun w' hS' => ?_) ?_; rotate_left
                  · simp only [lookP, allP, Act.put, List.getElem?_cons_zero, List.getElem?_cons_succ, List.setIfInBounds_toArray, List.set_cons_zero, List.set_cons_succ]
                    refine ⟨by kernel_rfl, ?_⟩
                    (try dsimp only at hS')
                    go_simp
                    (try with_reducible rfl)
                  -- 17: call { callee := builtin Builtin.len, args := #[t41], argTypes := #[42] }
                  refine' chainP_readG (d := (some 42)) _ rfl (fun w' hS' => ?_) ?_; rotate_left
                  · simp only [lookP, allP, Act.put, List.getElem?_cons_zero, List.getElem?_cons_succ, List.setIfInBounds_toArray, List.set_cons_zero, List.set_cons_succ]
                    refine ⟨by kernel_rfl, ?_⟩
                    (try dsimp only at hS')
                    go_simp
                    (try with_reducible rfl)
                  -- 18: binOp Binsub 3 t42 (const (int i64 1)) 3
                  refine' chainP_readG (d := (some 43)) _ rfl (fun w' hS' => ?_) ?_; rotate_left
                  · simp only [lookP, allP, Act.put, List.getElem?_cons_zero, List.getElem?_cons_succ, List.setIfInBounds_toArray, List.set_cons_zero, List.set_cons_succ]
                    refine ⟨by kernel_rfl, ?_⟩
                    (try dsimp only at hS')
                    go_simp
                    (try with_reducible rfl)
                  -- 19: call { callee := value (func 101), args := #[t40, const (int i64 0), t43], argTypes := #[3, 3, 3] }
                  refine chainP_callG (d := (some 44)) (.bool true) rfl (fun w' hS' => ?_) ?_
                  · simp only [lookP, allP, Act.put, List.getElem?_cons_zero, List.getElem?_cons_succ, List.setIfInBounds_toArray, List.set_cons_zero, List.set_cons_succ]
                    refine ⟨by kernel_rfl, ?_⟩
                    intro K hK
                    go_simp
                    go_at_call 101
                    refine (impl_within k 0 ((evn : Int) - 1) _).mono ?_
                    rintro e u ⟨rfl, rfl⟩
                    rw [hc4]
                    exact hK.out _ (Below.refl _ _)
                  -- 20: unOp Unnot 4 t44
                  refine' chainP_readG (d := (some 45)) _ rfl (fun w' hS' => ?_) ?_; rotate_left
                  · simp only [lookP, allP, Act.put, List.getElem?_cons_zero, List.getElem?_cons_succ, List.setIfInBounds_toArray, List.set_cons_zero, List.set_cons_succ]
                    refine ⟨by kernel_rfl, ?_⟩
                    (try dsimp only at hS')
                    go_simp
                    (try with_reducible rfl)
                  iterate 2 (refine' chainP_read _ rfl rfl (fun w' hS' => ?_) ?_; rotate_left; · (simp only [lookP, allP, Act.put, List.getElem?_cons_zero, List.getElem?_cons_succ, List.setIfInBounds_toArray, List.set_cons_zero, List.set_cons_succ]; (try dsimp only at hS'); go_simp; (try with_reducible rfl)))
                  -- 23: load 24 t6
                  refine' chainP_readG (d := (some 48)) _ rfl (fun w' hS' => ?_) ?_; rotate_left
                  · simp only [lookP, allP, Act.put, List.getElem?_cons_zero, List.getElem?_cons_succ, List.setIfInBounds_toArray, List.set_cons_zero, List.set_cons_succ]
                    refine ⟨by kernel_rfl, ?_⟩
                    (try dsimp only at hS')
                    go_simp
                    (try with_reducible rfl)
                  -- 24: move t4
                  refine' chainP_readG (d := (some 49)) _ rfl (fun w' hS' => ?_) ?_; rotate_left
                  · simp only [lookP, allP, Act.put, List.getElem?_cons_zero, List.getElem?_cons_succ, List.setIfInBounds_toArray, List.set_cons_zero, List.set_cons_succ]
                    refine ⟨by kernel_rfl, ?_⟩
                    (try dsimp only at hS')
                    go_simp
                    (try with_reducible rfl)
                  -- 25: call { callee := value (func 71), args := #[t48, t49], argTypes := #[24, 3] }
                  refine chainP_callG (d := (some 50)) (.bool true) rfl (fun w' hS' => ?_) ?_
                  · simp only [lookP, allP, Act.put, List.getElem?_cons_zero, List.getElem?_cons_succ, List.setIfInBounds_toArray, List.set_cons_zero, List.set_cons_succ]
                    refine ⟨by kernel_rfl, ?_⟩
                    intro K hK
                    go_simp
                    go_at_call 71
                    refine (impl_isExp gr x _ HG.out).mono ?_
                    rintro e u ⟨rfl, hq⟩
                    rw [Hhc5.out]
                    exact hK.out _ hq
                  -- 26: unOp Unnot 4 t50
                  refine' chainP_readG (d := (some 51)) _ rfl (fun w' hS' => ?_) ?_; rotate_left
                  · simp only [lookP, allP, Act.put, List.getElem?_cons_zero, List.getElem?_cons_succ, List.setIfInBounds_toArray, List.set_cons_zero, List.set_cons_succ]
                    refine ⟨by kernel_rfl, ?_⟩
                    (try dsimp only at hS')
                    go_simp
                    (try with_reducible rfl)
                  iterate 2 (refine' chainP_read _ rfl rfl (fun w' hS' => ?_) ?_; rotate_left; · (simp only [lookP, allP, Act.put, List.getElem?_cons_zero, List.getElem?_cons_succ, List.setIfInBounds_toArray, List.set_cons_zero, List.set_cons_succ]; (try dsimp only at hS'); go_simp; (try with_reducible rfl)))
                  -- 29: move t5
                  refine' chainP_readG (d := (some 54)) _ rfl (fun w' hS' => ?_) ?_; rotate_left
                  · simp only [lookP, allP, Act.put, List.getElem?_cons_zero, List.getElem?_cons_succ, List.setIfInBounds_toArray, List.set_cons_zero, List.set_cons_succ]
                    refine ⟨by kernel_rfl, ?_⟩
                    (try dsimp only at hS')
                    go_simp
                    (try with_reducible rfl)
                  -- 30: call { callee := builtin Builtin.len, args := #[t54], argTypes := #[43] }
                  refine' chainP_readG (d := (some 55)) _ rfl (fun w' hS' => ?_) ?_; rotate_left
                  · simp only [lookP, allP, Act.put, List.getElem?_cons_zero, List.getElem?_cons_succ, List.setIfInBounds_toArray, List.set_cons_zero, List.set_cons_succ]
                    refine ⟨by kernel_rfl, ?_⟩
                    (try dsimp only at hS')
                    go_simp
                    (try with_reducible rfl)
                  -- 31: move t2
                  refine' chainP_readG (d := (some 56)) _ rfl (fun w' hS' => ?_) ?_; rotate_left
                  · simp only [lookP, allP, Act.put, List.getElem?_cons_zero, List.getElem?_cons_succ, List.setIfInBounds_toArray, List.set_cons_zero, List.set_cons_succ]
                    refine ⟨by kernel_rfl, ?_⟩
                    (try dsimp only at hS')
                    go_simp
                    (try with_reducible rfl)
                  -- 32: call { callee := builtin Builtin.len, args := #[t56], argTypes := #[42] }
                  refine' chainP_readG (d := (some 57)) _ rfl (fun w' hS' => ?_) ?_; rotate_left
                  · simp only [lookP, allP, Act.put, List.getElem?_cons_zero, List.getElem?_cons_succ, List.setIfInBounds_toArray, List.set_cons_zero, List.set_cons_succ]
                    refine ⟨by kernel_rfl, ?_⟩
                    (try dsimp only at hS')
                    go_simp
                    (try with_reducible rfl)
                  -- 33: binOp Binmul 3 (const (int i64 2)) t57 3
                  refine' chainP_readG (d := (some 58)) _ rfl (fun w' hS' => ?_) ?_; rotate_left
                  · simp only [lookP, allP, Act.put, List.getElem?_cons_zero, List.getElem?_cons_succ, List.setIfInBounds_toArray, List.set_cons_zero, List.set_cons_succ]
                    refine ⟨by kernel_rfl, ?_⟩
                    (try dsimp only at hS')
                    go_simp
                    (try with_reducible rfl)
                  -- 34: binOp Binsub 3 t58 (const (int i64 1)) 3
                  refine' chainP_readG (d := (some 59)) _ rfl (fun w' hS' => ?_) ?_; rotate_left
                  · simp only [lookP, allP, Act.put, List.getElem?_cons_zero, List.getElem?_cons_succ, List.setIfInBounds_toArray, List.set_cons_zero, List.set_cons_succ]
                    refine ⟨by kernel_rfl, ?_⟩
                    (try dsimp only at hS')
                    go_simp
                    (try with_reducible rfl)
                  -- 35: binOp Binneq 3 t55 t59 3
                  refine' chainP_readG (d := (some 60)) _ rfl (fun w' hS' => ?_) ?_; rotate_left
                  · simp only [lookP, allP, Act.put, List.getElem?_cons_zero, List.getElem?_cons_succ, List.setIfInBounds_toArray, List.set_cons_zero, List.set_cons_succ]
                    refine ⟨by kernel_rfl, ?_⟩
                    (try dsimp only at hS')
                    go_simp
                    (try with_reducible rfl)
                  iterate 2 (refine' chainP_read _ rfl rfl (fun w' hS' => ?_) ?_; rotate_left; · (simp only [lookP, allP, Act.put, List.getElem?_cons_zero, List.getElem?_cons_succ, List.setIfInBounds_toArray, List.set_cons_zero, List.set_cons_succ]; (try dsimp only at hS'); go_simp; (try with_reducible rfl)))
                  -- 38: load 24 t6
                  refine' chainP_readG (d := (some 63)) _ rfl (fun w' hS' => ?_) ?_; rotate_left
                  · simp only [lookP, allP, Act.put, List.getElem?_cons_zero, List.getElem?_cons_succ, List.setIfInBounds_toArray, List.set_cons_zero, List.set_cons_succ]
                    refine ⟨by kernel_rfl, ?_⟩
                    (try dsimp only at hS')
                    go_simp
                    (try with_reducible rfl)
                  -- 39: move t5
                  refine' chainP_readG (d := (some 64)) _ rfl (fun w' hS' => ?_) ?_; rotate_left
                  · simp only [lookP, allP, Act.put, List.getElem?_cons_zero, List.getElem?_cons_succ, List.setIfInBounds_toArray, List.set_cons_zero, List.set_cons_succ]
                    refine ⟨by kernel_rfl, ?_⟩
                    (try dsimp only at hS')
                    go_simp
                    (try with_reducible rfl)
                  -- 40: call { callee := value (func 102), args := #[t63, t64], argTypes := #[24, 43] }
                  refine chainP_callG (d := (some 65)) (.bool true) rfl (fun w' hS' => ?_) ?_
                  · simp only [lookP, allP, Act.put, List.getElem?_cons_zero, List.getElem?_cons_succ, List.setIfInBounds_toArray, List.set_cons_zero, List.set_cons_succ]
                    refine ⟨by kernel_rfl, ?_⟩
                    intro K hK
                    go_simp
                    go_at_call 102
                    refine (impl_areExps gr _ cs _ HG.out ((Hcv.out.below (HB.out.trans (hc.mono HB.out.size))).below hS'.1)).mono ?_
                    rintro e u ⟨rfl, hq⟩
                    rw [Hhc7.out]
                    exact hK.out _ hq
                  -- 41: unOp Unnot 4 t65
                  refine' chainP_readG (d := (some 66)) _ rfl (fun w' hS' => ?_) ?_; rotate_left
                  · simp only [lookP, allP, Act.put, List.getElem?_cons_zero, List.getElem?_cons_succ, List.setIfInBounds_toArray, List.set_cons_zero, List.set_cons_succ]
                    refine ⟨by kernel_rfl, ?_⟩
                    (try dsimp only at hS')
                    go_simp
                    (try with_reducible rfl)
                  iterate 2 (refine' chainP_read _ rfl rfl (fun w' hS' => ?_) ?_; rotate_left; · (simp only [lookP, allP, Act.put, List.getElem?_cons_zero, List.getElem?_cons_succ, List.setIfInBounds_toArray, List.set_cons_zero, List.set_cons_succ]; (try dsimp only at hS'); go_simp; (try with_reducible rfl)))
                  -- 44: load 24 t6
                  refine' chainP_readG (d := (some 69)) _ rfl (fun w' hS' => ?_) ?_; rotate_left
                  · simp only [lookP, allP, Act.put, List.getElem?_cons_zero, List.getElem?_cons_succ, List.setIfInBounds_toArray, List.set_cons_zero, List.set_cons_succ]
                    refine ⟨by kernel_rfl, ?_⟩
                    (try dsimp only at hS')
                    go_simp
                    (try with_reducible rfl)
                  -- 45: move t2
                  refine' chainP_readG (d := (some 70)) _ rfl (fun w' hS' => ?_) ?_; rotate_left
                  · simp only [lookP, allP, Act.put, List.getElem?_cons_zero, List.getElem?_cons_succ, List.setIfInBounds_toArray, List.set_cons_zero, List.set_cons_succ]
                    refine ⟨by kernel_rfl, ?_⟩
                    (try dsimp only at hS')
                    go_simp
                    (try with_reducible rfl)
                  -- 46: move t3
                  refine' chainP_readG (d := (some 71)) _ rfl (fun w' hS' => ?_) ?_; rotate_left
                  · simp only [lookP, allP, Act.put, List.getElem?_cons_zero, List.getElem?_cons_succ, List.setIfInBounds_toArray, List.set_cons_zero, List.set_cons_succ]
                    refine ⟨by kernel_rfl, ?_⟩
                    (try dsimp only at hS')
                    go_simp
                    (try with_reducible rfl)
                  -- 47: indexAddr 42 t70 t71
                  refine' chainP_readG (d := (some 72)) _ rfl (fun w' hS' => ?_) ?_; rotate_left
                  · simp only [lookP, allP, Act.put, List.getElem?_cons_zero, List.getElem?_cons_succ, List.setIfInBounds_toArray, List.set_cons_zero, List.set_cons_succ]
                    refine ⟨by kernel_rfl, ?_⟩
                    (try dsimp only at hS')
                    go_simp
                    (try with_reducible rfl)
                  -- 48: load 31 t72
                  refine' chainP_readG (d := (some 73)) _ rfl (fun w' hS' => ?_) ?_; rotate_left
                  · simp only [lookP, allP, Act.put, List.getElem?_cons_zero, List.getElem?_cons_succ, List.setIfInBounds_toArray, List.set_cons_zero, List.set_cons_succ]
                    refine ⟨by kernel_rfl, ?_⟩
                    (try dsimp only at hS')
                    go_simp
                    (try with_reducible rfl)
                  -- 49: move t4
                  refine' chainP_readG (d := (some 74)) _ rfl (fun w' hS' => ?_) ?_; rotate_left
                  · simp only [lookP, allP, Act.put, List.getElem?_cons_zero, List.getElem?_cons_succ, List.setIfInBounds_toArray, List.set_cons_zero, List.set_cons_succ]
                    refine ⟨by kernel_rfl, ?_⟩
                    (try dsimp only at hS')
                    go_simp
                    (try with_reducible rfl)
                  -- 50: call { callee := value (func 91), args := #[t69, t73, t74], argTypes := #[24, 31, 3] }
                  refine chainP_callG (d := (some 75)) (.bool true) rfl (fun w' hS' => ?_) ?_
                  · simp only [lookP, allP, Act.put, List.getElem?_cons_zero, List.getElem?_cons_succ, List.setIfInBounds_toArray, List.set_cons_zero, List.set_cons_succ]
                    refine ⟨by kernel_rfl, ?_⟩
                    intro K hK
                    go_simp
                    go_at_call 91
                    refine (impl_isTrue gr z x _ HG.out HZE.out HXS.out).mono ?_
                    rintro e u ⟨rfl, hq⟩
                    rw [Hhc8.out]
                    exact hK.out _ hq
                  -- 51: unOp Unnot 4 t75
                  refine' chainP_readG (d := (some 76)) _ rfl (fun w' hS' => ?_) ?_; rotate_left
                  · simp only [lookP, allP, Act.put, List.getElem?_cons_zero, List.getElem?_cons_succ, List.setIfInBounds_toArray, List.set_cons_zero, List.set_cons_succ]
                    refine ⟨by kernel_rfl, ?_⟩
                    (try dsimp only at hS')
                    go_simp
                    (try with_reducible rfl)
                  -- 52: pick t68 (const (bool true)) t76
                  refine' chainP_read (d := (some 77)) _ rfl rfl (fun w' hS' => ?_) ?_; rotate_left
                  · simp only [lookP, allP, Act.put, List.getElem?_cons_zero, List.getElem?_cons_succ, List.setIfInBounds_toArray, List.set_cons_zero, List.set_cons_succ]
                    (try dsimp only at hS')
                    go_simp
                    (try with_reducible rfl)
                  refine chainP_nil (fun u1 hS' => ?_)
                  simp only [allP, Act.put, List.setIfInBounds_toArray, List.set_cons_zero, List.set_cons_succ]
                  have hq1 := hS'.1
                  clear hS'
                  replace hc := Below.next hc hq1
                  clear hq1 c0_0 c0_1 c0_2 yz_0 yz_1 yz_2 yz_3
                  obtain ⟨c0_0, c0_1, c0_2, yz_0, yz_1, yz_2, yz_3⟩ := HCC.out _ hc
                  go_wp2_with fail
                  refine NoPanic.normal ?_
                  have HVB : Hid (ooB gr s l k x cs = true) := by unfold Hid; simp [ooB, Hhc1.out, hc2, Hhc3.out, Hhc5.out, Hhc7.out, Hhc8.out, HK3d.out, HLNd.out, HZQ.out]
                  have HPR : Hid (ooF gr s l k x cs = ooD gr s l k.toNat x cs) := by unfold Hid ooF; rw [if_pos HVB.out]
                  have HBU : Hid (Below w.heap.size w u1) := HB.out.trans (hc.mono HB.out.size)
                  have HGB := Lib.hid (HGX.out.below hc)
                  have HRB := Lib.hid (HR1.out.below hc)
                  have hltU : w.heap.size + 1 < u1.heap.size := HRB.out.lt
                  clear hc HCC c0_0 c0_1 c0_2 yz_0 yz_1 yz_2 yz_3 HZE HZQ Kz_0 Kz_1 Kz_2 Kz_3 bk0 bk1 HK hw1 hw2 hw3
                  obtain ⟨ea, hea⟩ : ∃ a : Option Addr, a = some ⟨b_z, o_z, none⟩ := ⟨_, rfl⟩
                  rw [← hea] at Hev ⊢
                  clear hea
                  have HKK : Hid (k.toNat < l.length) := by have := HK3.out; unfold Hid; omega
                  obtain ⟨kk, hkk⟩ : ∃ kk : Nat, k = (kk : Int) := ⟨k.toNat, by have := HK3.out; omega⟩
                  subst hkk
                  rw [Int.toNat_natCast] at HKK
                  have HCN : Hid (cvn + 1 = 2 * evn) := by have := HLN.out; unfold Hid; have := Eev.out; have := Ecv.out; have := HN9.out; omega
                  obtain ⟨bc, oc, rfl, hcx⟩ := Hcv.out.at_ (by have := HCN.out; have := HN9.out; have := Eev.out; omega)
                  have Xc := Lib.hid hcx
                  clear hcx
                  replace HN9 : Hid (1 ≤ evn ∧ evn ≤ 8) := by have := HN9.out; unfold Hid; have := Eev.out; omega
                  obtain ⟨m9, hm9⟩ : ∃ m, m = cvn - 1 := ⟨_, rfl⟩
                  have hwm9 : IntKind.i64.wrap ((cvn : Int) - 1) = (m9 : Int) := by have := HCN.out; have := HN9.out; rw [IntWalk.i64_in _ (by omega)]; omega
                  have hbm9 : (0 : Int) ≤ (m9 : Int) := by omega
                  have hbm8 : (m9 : Int) < (cvn : Int) := by have := HCN.out; have := HN9.out; omega
                  have k9 := Xc.out m9 (by have := HCN.out; have := HN9.out; omega)
                  have HOW0 : Hid (nth cs m9 = ooW l.length cs) := by unfold Hid ooW; congr 1; have := HCN.out; have := HN9.out; have := Eev.out; omega
                  rw [HOW0.out] at k9
                  have HOE : Hid (expB gr (ooW l.length cs) = true) := exp_nth HG.out HCA.out _
                  obtain ⟨ow, how⟩ : ∃ z, ooW l.length cs = z := ⟨_, rfl⟩
                  have HOW := Lib.hid how
                  rw [how] at k9 HOE
                  clear how HOW0 hm9
                  have HOS := Lib.hid (expB_small HG.out HOE.out)
                  have zq1 := HG.out.q1
                  have zq2 := HG.out.q2
                  have zp2 := HG.out.p2
                  have zq0 : 0 < gr.q := by omega
                  have zq3 : gr.q ≤ 2000000000 := by omega
                  have zq4 : gr.q ≤ 4000000000 := by omega
                  have hqz : ¬ gr.q = 0 := by omega
                  have hqz2 : (gr.q == 0) = false := beq_eq_false_iff_ne.2 hqz
                  obtain ⟨V0, hV0⟩ : ∃ V, V = u1.alloc (.cells #[.slice none 0 0, .slice none 0 0, .slice none 0 0] 47) := ⟨_, rfl⟩
                  have hb0 : Below u1.heap.size u1 V0 := by rw [hV0]; exact (Below.refl _ _).alloc (Nat.le_refl _) _
                  have HX2 : BoxN V0 u1.heap.size 47 [.slice none 0 0, .slice none 0 0, .slice none 0 0] := by rw [hV0]; exact BoxN.new u1 [.slice none 0 0, .slice none 0 0, .slice none 0 0] 47
                  have hsV0 : u1.heap.size < V0.heap.size := HX2.lt
                  have HP0 : Hid (PSt w V0 w.heap.size (w.heap.size + 1) u1.heap.size V0.heap.size gr (.slice none 0 0) (.slice none 0 0) (.slice none 0 0) [] [] []) := PSt.new (HBU.out.trans (hb0.mono HBU.out.size)) (HGB.out.below hb0) (HRB.out.below hb0) HX2 (by omega) HBU.out.size (by omega) (Nat.le_refl _)
                  clear HX2 hb0
                  go_upto_region 4 with fail
                  rw [← hV0]
                  clear hV0
                  have y9 := box_at k9 HP0.out.bel
                  go_wp2_with fail
                  clear y9 k9 hwm9 hbm9 hbm8
                  go_loopg [15, 88] evn (fun gk pv iv wr => ∃ k : Nat, k + gk = evn ∧ iv = .int .i64 (k : Int) ∧ pv = .int .i64 ((ooN kk k : Nat) : Int) ∧ ∃ c1 h1 r1, PSt w wr w.heap.size (w.heap.size + 1) u1.heap.size V0.heap.size gr c1 h1 r1 (ooCs gr l kk cs k) (ooHs kk cs k) (ooRs kk cs k))
                  case atStart => exact ⟨0, by omega, rfl, by simp [ooN], _, _, _, HP0.out⟩
                  case round =>
                    obtain ⟨k, hkg, rfl, rfl, c1, h1, r1, hP⟩ := hrel
                    have HP := Lib.hid hP
                    have HKG := Lib.hid hkg
                    have hgl : k < evn → evn - (k + 1) < gk := by omega
                    clear hP hkg
                    have HLC : Hid ((ooCs gr l kk cs k).length = 2 * k) := ooCs_len ..
                    have HLH : Hid ((ooHs kk cs k).length = k) := ooHs_len ..
                    have HLR : Hid ((ooRs kk cs k).length = k) := ooRs_len ..
                    have HSB := Lib.hid (sumM_bd (q := gr.q) (by have := HG.out.q1; omega) (ooHs kk cs k))
                    have HKE : Hid (k ≤ evn) := by unfold Hid; have := HKG.out; omega
                    by_cases hlt : k < evn
                    · have HK : Hid (k < l.length) := by unfold Hid; have := Eev.out; omega
                      have HYE : Hid (eqEl gr (l[k]'HK.out) = true) := List.all_eq_true.1 (stB_all HL.out) _ (List.getElem_mem HK.out)
                      have HY1 := Lib.hid (fun h => ooC_own (gr := gr) (kk := kk) (cs := cs) HK.out h)
                      have HY2 := Lib.hid (fun h => ooC_other (gr := gr) (kk := kk) (cs := cs) HK.out h)
                      have hwk : IntKind.i64.wrap ((k : Int) + 1) = (k : Int) + 1 := IntWalk.i64_in _ (by have := HN9.out; omega)
                      obtain ⟨LC, hLC⟩ : ∃ L, ooCs gr l kk cs k = L := ⟨_, rfl⟩
                      obtain ⟨LH, hLH⟩ : ∃ L, ooHs kk cs k = L := ⟨_, rfl⟩
                      obtain ⟨LR, hLR⟩ : ∃ L, ooRs kk cs k = L := ⟨_, rfl⟩
                      rw [hLC, hLH, hLR] at HP
                      rw [hLC] at HLC
                      rw [hLH] at HLH
                      rw [hLR] at HLR
                      rw [hLC, hLH, hLR, HOW.out] at HY1
                      rw [hLC, hLH, hLR] at HY2
                      clear hLC hLH hLR HSB
                      obtain ⟨N, hN⟩ : ∃ N, ooN kk k = N := ⟨_, rfl⟩
                      rw [hN] at HY2 ⊢
                      have HNe := Lib.hid hN
                      clear hN
                      have hb0 := HP.out.bel
                      obtain ⟨b_y, o_y, rfl, hcx⟩ := Hev.out.at_ (by omega)
                      obtain ⟨us, hcell, hrd⟩ := hcx k HK.out
                      clear hcx
                      generalize l[k]'HK.out = y at hrd HYE HY1 HY2
                      obtain ⟨ers, jy_0, jy_1, jy_2, jy_3⟩ := rdEqualLog.1 ⟨us, rfl, hrd⟩
                      obtain rfl : us = [.int .i64 y.g1, .int .i64 y.y1, .int .i64 y.g2, .int .i64 y.y2] := by have h := Value.agg.inj ers; simpa using congrArg Array.toList h
                      clear ers hrd
                      have y_y_0 : wr.cell? ⟨b_y, o_y + k * 4, none⟩ = some (.int .i64 y.g1) := box_at (hcell 0 (by decide)) hb0
                      have y_y_1 : wr.cell? ⟨b_y, o_y + k * 4 + 1, none⟩ = some (.int .i64 y.y1) := box_at (hcell 1 (by decide)) hb0
                      have y_y_2 : wr.cell? ⟨b_y, o_y + k * 4 + 2, none⟩ = some (.int .i64 y.g2) := box_at (hcell 2 (by decide)) hb0
                      have y_y_3 : wr.cell? ⟨b_y, o_y + k * 4 + 3, none⟩ = some (.int .i64 y.y2) := box_at (hcell 3 (by decide)) hb0
                      clear hcell
                      have HR_y := Lib.hid ((kS rEqualLog).rd_below (rdEqualLog.2 ⟨rfl, jy_0, jy_1, jy_2, jy_3⟩ : (kS rEqualLog).rd w (.agg #[.int .i64 y.g1, .int .i64 y.y1, .int .i64 y.g2, .int .i64 y.y2]) y) hb0)
                      have J_y_0 := Lib.hid jy_0
                      have J_y_1 := Lib.hid jy_1
                      have J_y_2 := Lib.hid jy_2
                      have J_y_3 := Lib.hid jy_3
                      clear jy_0 jy_1 jy_2 jy_3
                      have HYS := Lib.hid (eqEl_small HG.out HYE.out)
                      have hly := World.block_lt_of_cell? wr _ y_y_0
                      clear hb0
                      go_upto_if 95 with fail
                      obtain ⟨V, hV⟩ : ∃ V, V = wr.alloc (.cells #[.int .i64 y.g1, .int .i64 y.y1, .int .i64 y.g2, .int .i64 y.y2] 31) := ⟨_, rfl⟩
                      rw [← hV]
                      have HV : Hid (Below wr.heap.size wr V) := by unfold Hid; rw [hV]; exact (Below.refl _ _).alloc (Nat.le_refl _) _
                      have hsV : V.heap.size = wr.heap.size + 1 := by rw [hV]; simp
                      have x_y_0 : V.cell? ⟨wr.heap.size, 0, none⟩ = some (.int .i64 y.g1) := by rw [hV]; simp [go_sem]
                      have x_y_1 : V.cell? ⟨wr.heap.size, 1, none⟩ = some (.int .i64 y.y1) := by rw [hV]; simp [go_sem]
                      have x_y_2 : V.cell? ⟨wr.heap.size, 2, none⟩ = some (.int .i64 y.g2) := by rw [hV]; simp [go_sem]
                      have x_y_3 : V.cell? ⟨wr.heap.size, 3, none⟩ = some (.int .i64 y.y2) := by rw [hV]; simp [go_sem]
                      have HRV_y := Lib.hid ((kS rEqualLog).rd_below HR_y.out HV.out)
                      clear hV
                      clear y_y_0 y_y_1 y_y_2 y_y_3
                      have HPV := Lib.hid (HP.out.below HV.out)
                      go_cut [15, 19, 20, 21, 22] from 95 to 124 (fun v15 v19 v20 v21 v22 wx => ∃ X1 X2 H R : Int, v15 = .int .i64 ((ooN kk (k + 1) : Nat) : Int) ∧ v19 = .int .i64 H ∧ v20 = .int .i64 R ∧ v21 = .int .i64 X1 ∧ v22 = .int .i64 X2 ∧ Hid ((I64 H ∧ I64 R) ∧ (I64 X1 ∧ I64 X2)) ∧ Hid (ooCs gr l kk cs (k + 1) = LC ++ [X1, X2] ∧ ooHs kk cs (k + 1) = LH ++ [H] ∧ ooRs kk cs (k + 1) = LR ++ [R]) ∧ Hid (PSt w wx w.heap.size (w.heap.size + 1) u1.heap.size V0.heap.size gr c1 h1 r1 LC LH LR))
                      case first =>
                        by_cases hkk : k = kk
                        · have HY := Lib.hid (HY1.out hkk)
                          clear HY1 HY2
                          have hd : ((k : Int) == (kk : Int)) = true := by simp [hkk]
                          have hd2 : (k == kk) = true := by simp [hkk]
                          have HKQ := Lib.hid hkk
                          clear hkk
                          have c0_0 := HPV.out.grp.cell (i := 0) rfl
                          have c0_1 := HPV.out.grp.cell (i := 1) rfl
                          have c0_2 := HPV.out.grp.cell (i := 2) rfl
                          have hc : Below V.heap.size V V := Below.refl _ _
                          go_wp2_with fail
                          try (go_wp2_with fail)
                          refine wp_region_noPanic ?_
                          refine wp_region_P (fun w' => w'.cell? ⟨w.heap.size, 0, none⟩ = some (.int .i64 gr.p) ∧ w'.cell? ⟨w.heap.size, 1, none⟩ = some (.int .i64 gr.q) ∧ w'.cell? ⟨w.heap.size, 2, none⟩ = some (.int .i64 gr.g) ∧ w'.cell? ⟨wr.heap.size, 0, none⟩ = some (.int .i64 y.g1) ∧ w'.cell? ⟨wr.heap.size, 1, none⟩ = some (.int .i64 y.y1) ∧ w'.cell? ⟨wr.heap.size, 2, none⟩ = some (.int .i64 y.g2) ∧ w'.cell? ⟨wr.heap.size, 3, none⟩ = some (.int .i64 y.y2)) 14 [(0, []), (1, []), (2, [0]), (3, []), (4, [3, 1, 0]), (5, []), (6, []), (7, [0]), (8, []), (9, [3, 1, 0]), (10, [5]), (11, [1])] [] (by kernel_rfl) (by kernel_rfl) (by kernel_rfl) rfl (fun _ _ _ _ h => h) (fun w' h => ⟨box_at c0_0 h, box_at c0_1 h, box_at c0_2 h, box_at x_y_0 h, box_at x_y_1 h, box_at x_y_2 h, box_at x_y_3 h⟩) ?_
                          simp only [pickP, pickN, List.getElem?_cons_zero, List.getElem?_cons_succ]
                          iterate 4 (refine' chainP_read _ rfl rfl (fun w' hS' => ?_) ?_; rotate_left; · (simp only [lookP, allP, Act.put, List.getElem?_cons_zero, List.getElem?_cons_succ, List.setIfInBounds_toArray, List.set_cons_zero, List.set_cons_succ]; (try dsimp only at hS'); go_simp; (try with_reducible rfl)))
                          -- 4: call { callee := value (func 74), args := #[t96, t98, t99], argTypes := #[24, 3, 3] }
                          refine chainP_call (d := (some 100)) (.int .i64 (powE gr y.g1 ow)) rfl rfl (fun w' hS' => ?_) ?_
                          · simp only [lookP, allP, Act.put, List.getElem?_cons_zero, List.getElem?_cons_succ, List.setIfInBounds_toArray, List.set_cons_zero, List.set_cons_succ]
                            intro K hK
                            go_simp
                            go_at_call 74
                            refine (impl_pow gr y.g1 ow _ HG.out HYS.out.1 (small_64 HOS.out)).mono ?_
                            rintro e u ⟨rfl, hq⟩
                            exact hK.out _ hq
                          iterate 4 (refine' chainP_read _ rfl rfl (fun w' hS' => ?_) ?_; rotate_left; · (simp only [lookP, allP, Act.put, List.getElem?_cons_zero, List.getElem?_cons_succ, List.setIfInBounds_toArray, List.set_cons_zero, List.set_cons_succ]; (try dsimp only at hS'); go_simp; (try with_reducible rfl)))
                          -- 9: call { callee := value (func 74), args := #[t101, t103, t104], argTypes := #[24, 3, 3] }
                          refine chainP_call (d := (some 105)) (.int .i64 (powE gr y.g2 ow)) rfl rfl (fun w' hS' => ?_) ?_
                          · simp only [lookP, allP, Act.put, List.getElem?_cons_zero, List.getElem?_cons_succ, List.setIfInBounds_toArray, List.set_cons_zero, List.set_cons_succ]
                            intro K hK
                            go_simp
                            go_at_call 74
                            refine (impl_pow gr y.g2 ow _ HG.out HYS.out.2.2.1 (small_64 HOS.out)).mono ?_
                            rintro e u ⟨rfl, hq⟩
                            exact hK.out _ hq
                          iterate 2 (refine' chainP_read _ rfl rfl (fun w' hS' => ?_) ?_; rotate_left; · (simp only [lookP, allP, Act.put, List.getElem?_cons_zero, List.getElem?_cons_succ, List.setIfInBounds_toArray, List.set_cons_zero, List.set_cons_succ]; (try dsimp only at hS'); go_simp; (try with_reducible rfl)))
                          refine chainP_nil (fun ua hS' => ?_)
                          simp only [allP, Act.put, List.setIfInBounds_toArray, List.set_cons_zero, List.set_cons_succ]
                          have hq1 := hS'.1
                          clear hS'
                          replace hc := Below.next hc hq1
                          replace c0_0 := box_at c0_0 hq1
                          replace c0_1 := box_at c0_1 hq1
                          replace c0_2 := box_at c0_2 hq1
                          replace x_y_0 := box_at x_y_0 hq1
                          replace x_y_1 := box_at x_y_1 hq1
                          replace x_y_2 := box_at x_y_2 hq1
                          replace x_y_3 := box_at x_y_3 hq1
                          clear hq1
                          have HPA := Lib.hid (HPV.out.below hc)
                          clear hc c0_0 c0_1 c0_2 x_y_0 x_y_1 x_y_2 x_y_3
                          go_wp2_with fail
                          refine NoPanic.normal ?_
                          (try (go_wp2_with fail))
                          go_meet
                          exact ⟨_, _, _, _, by rw [ooN_own HKQ.out, HNe.out], rfl, rfl, rfl, rfl, ⟨⟨⟨by decide, by decide⟩, ⟨by decide, by decide⟩⟩, small_64 (powE_small HG.out _ _), small_64 (powE_small HG.out _ _)⟩, HY.out, HPA⟩
                        · have HY := Lib.hid (HY2.out hkk)
                          clear HY1 HY2
                          have hd : ((k : Int) == (kk : Int)) = false := by rw [beq_eq_false_iff_ne]; omega
                          have hd2 : (k == kk) = false := by rw [beq_eq_false_iff_ne]; exact hkk
                          have HKQ := Lib.hid hkk
                          clear hkk
                          have HNB : Hid (N + 2 ≤ cvn - 1) := by have h := ooN_le HK.out HKK.out HKQ.out; unfold Hid; have := HNe.out; have := HCN.out; have := Eev.out; omega
                          have HNB2 : Hid (3 ≤ cvn) := by unfold Hid; have := HNB.out; have := HCN.out; have := HN9.out; omega
                          have ya := Xc.out N (by have := HNB.out; omega)
                          have yb := Xc.out (N + 1) (by have := HNB.out; omega)
                          have HA : Hid (Small (nth cs N)) := expB_small HG.out (exp_nth HG.out HCA.out _)
                          have HBB : Hid (Small (nth cs (N + 1))) := expB_small HG.out (exp_nth HG.out HCA.out _)
                          generalize nth cs N = a at ya HA HY
                          generalize nth cs (N + 1) = b at yb HBB HY
                          obtain ⟨N1, hN1⟩ : ∃ m, m = N + 1 := ⟨_, rfl⟩
                          rw [← hN1] at yb
                          have hwN1 : IntKind.i64.wrap ((N : Int) + 1) = (N1 : Int) := by rw [IntWalk.i64_in _ (by have := HNB.out; have := HCN.out; have := HN9.out; omega)]; omega
                          have hwN2 : IntKind.i64.wrap ((N : Int) + 2) = (N : Int) + 2 := IntWalk.i64_in _ (by have := HNB.out; have := HCN.out; have := HN9.out; omega)
                          have bN0 : (0 : Int) ≤ (N : Int) := by omega
                          have bN1 : (N : Int) < (cvn : Int) := by have := HNB.out; omega
                          have bN2 : (0 : Int) ≤ (N1 : Int) := by omega
                          have bN3 : (N1 : Int) < (cvn : Int) := by have := HNB.out; omega
                          have HN1 := Lib.hid hN1
                          clear hN1
                          have y_a := box_at ya HPV.out.bel
                          have y_b := box_at yb HPV.out.bel
                          have c0_0 := HPV.out.grp.cell (i := 0) rfl
                          have c0_1 := HPV.out.grp.cell (i := 1) rfl
                          have c0_2 := HPV.out.grp.cell (i := 2) rfl
                          have hc : Below V.heap.size V V := Below.refl _ _
                          go_wp2_with fail
                          try (go_wp2_with fail)
                          refine wp_region_noPanic ?_
                          refine wp_region_P (fun w' => w'.cell? ⟨w.heap.size, 0, none⟩ = some (.int .i64 gr.p) ∧ w'.cell? ⟨w.heap.size, 1, none⟩ = some (.int .i64 gr.q) ∧ w'.cell? ⟨w.heap.size, 2, none⟩ = some (.int .i64 gr.g) ∧ w'.cell? ⟨wr.heap.size, 0, none⟩ = some (.int .i64 y.g1) ∧ w'.cell? ⟨wr.heap.size, 1, none⟩ = some (.int .i64 y.y1) ∧ w'.cell? ⟨wr.heap.size, 2, none⟩ = some (.int .i64 y.g2) ∧ w'.cell? ⟨wr.heap.size, 3, none⟩ = some (.int .i64 y.y2) ∧ w'.cell? ⟨bc, oc + N, none⟩ = some (.int .i64 a) ∧ w'.cell? ⟨bc, oc + N1, none⟩ = some (.int .i64 b)) 13 [(0, []), (1, []), (2, [1, 0]), (3, [0]), (4, []), (5, []), (6, [0]), (7, [2, 0]), (8, [0]), (9, [5]), (10, [1])] [] (by kernel_rfl) (by kernel_rfl) (by kernel_rfl) rfl (fun _ _ _ _ h => h) (fun w' h => ⟨box_at c0_0 h, box_at c0_1 h, box_at c0_2 h, box_at x_y_0 h, box_at x_y_1 h, box_at x_y_2 h, box_at x_y_3 h, box_at y_a h, box_at y_b h⟩) ?_
                          simp only [pickP, pickN, List.getElem?_cons_zero, List.getElem?_cons_succ]
                          iterate 11 (refine' chainP_read _ rfl rfl (fun w' hS' => ?_) ?_; rotate_left; · (simp only [lookP, allP, Act.put, List.getElem?_cons_zero, List.getElem?_cons_succ, List.setIfInBounds_toArray, List.set_cons_zero, List.set_cons_succ]; (try dsimp only at hS'); go_simp; (try with_reducible rfl)))
                          refine chainP_nil (fun ua hS' => ?_)
                          simp only [allP, Act.put, List.setIfInBounds_toArray, List.set_cons_zero, List.set_cons_succ]
                          have hq1 := hS'.1
                          clear hS'
                          replace hc := Below.next hc hq1
                          replace c0_0 := box_at c0_0 hq1
                          replace c0_1 := box_at c0_1 hq1
                          replace c0_2 := box_at c0_2 hq1
                          replace x_y_0 := box_at x_y_0 hq1
                          replace x_y_1 := box_at x_y_1 hq1
                          replace x_y_2 := box_at x_y_2 hq1
                          replace x_y_3 := box_at x_y_3 hq1
                          replace y_a := box_at y_a hq1
                          replace y_b := box_at y_b hq1
                          clear hq1
                          have HPA := Lib.hid (HPV.out.below hc)
                          clear hc y_a y_b
                          go_wp2_with fail
                          refine NoPanic.normal ?_
                          go_wp2_with fail
                          refine (impl_simulated gr y a b _ HG.out HYE.out HA.out HBB.out).mono ?_
                          rintro ee w5 ⟨rfl, hb5⟩
                          have HPB := Lib.hid (HPA.out.below hb5)
                          clear hb5 c0_0 c0_1 c0_2
                          go_wp2_with fail
                          go_meet
                          exact ⟨_, _, _, _, by rw [ooN_other HKQ.out, HNe.out]; exact congrArg (Value.int .i64) (by omega), rfl, rfl, rfl, rfl, ⟨⟨small_64 HA.out, small_64 HBB.out⟩, small_64 (smX_small HG.out _ _ _ _), small_64 (smX_small HG.out _ _ _ _)⟩, HY.out, HPB⟩
                      case rest =>
                        obtain ⟨X1, X2, H, R, rfl, rfl, rfl, rfl, rfl, HI4, HYY, HPX⟩ := hcut
                        clear HY1 HY2 HPV HP x_y_0 x_y_1 x_y_2 x_y_3
                        have p0 := HPX.out.prf.cell (i := 0) rfl
                        have p1 := HPX.out.prf.cell (i := 1) rfl
                        have p2 := HPX.out.prf.cell (i := 2) rfl
                        (try (go_wp2_with fail))
                        refine wp_region_noPanic ?_
                        refine wp_region_V (fun w' => w'.cell? ⟨u1.heap.size, 0, none⟩ = some c1 ∧ w'.cell? ⟨u1.heap.size, 1, none⟩ = some h1 ∧ w'.cell? ⟨u1.heap.size, 2, none⟩ = some r1) 30 17 (.rd 0 (.rd 1 (.rd 2 (.rd 3 (.rd 6 (.rd 7 (.rd 8 (.rd 11 (.rd 12 (.rd 13 (.alt 4 (.alt 5 (.rd 16 (.alt 9 (.alt 10 (.alt 14 (.alt 15 .done .nil) .nil) (.alt 14 (.alt 10 (.alt 15 .done .nil) .nil) .nil)) (.alt 14 (.alt 9 (.alt 10 (.alt 15 .done .nil) .nil) .nil) .nil))) (.alt 9 (.alt 5 (.rd 16 (.alt 10 (.alt 14 (.alt 15 .done .nil) .nil) (.alt 14 (.alt 10 (.alt 15 .done .nil) .nil) .nil))) (.alt 14 (.alt 5 (.rd 16 (.alt 10 (.alt 15 .done .nil) .nil)) .nil) .nil)) (.alt 14 (.alt 5 (.rd 16 (.alt 9 (.alt 10 (.alt 15 .done .nil) .nil) .nil)) (.alt 9 (.alt 5 (.rd 16 (.alt 10 (.alt 15 .done .nil) .nil)) .nil) .nil)) .nil))) (.alt 9 (.alt 4 (.alt 5 (.rd 16 (.alt 10 (.alt 14 (.alt 15 .done .nil) .nil) (.alt 14 (.alt 10 (.alt 15 .done .nil) .nil) .nil))) (.alt 14 (.alt 5 (.rd 16 (.alt 10 (.alt 15 .done .nil) .nil)) .nil) .nil)) (.alt 14 (.alt 4 (.alt 5 (.rd 16 (.alt 10 (.alt 15 .done .nil) .nil)) .nil) .nil) .nil)) (.alt 14 (.alt 4 (.alt 5 (.rd 16 (.alt 9 (.alt 10 (.alt 15 .done .nil) .nil) .nil)) (.alt 9 (.alt 5 (.rd 16 (.alt 10 (.alt 15 .done .nil) .nil)) .nil) .nil)) (.alt 9 (.alt 4 (.alt 5 (.rd 16 (.alt 10 (.alt 15 .done .nil) .nil)) .nil) .nil) .nil)) .nil))))))))))))) [17, 18, 19, 20, 21] (by kernel_rfl) (by kernel_rfl) rfl (fun _ _ _ _ _ h => h) ⟨box_at p0 (Below.refl _ _).drew, box_at p1 (Below.refl _ _).drew, box_at p2 (Below.refl _ _).drew⟩ ?_
                        simp only [pickV, pickN, List.getElem?_cons_zero, List.getElem?_cons_succ]
                        repeat (refine' wpV_read _ (by kernel_rfl) (fun w' hS' => ?_) ?_; rotate_left; (focus ((try dsimp only at hS'); go_simp; (try with_reducible rfl))); (try simp only [Act.put, List.setIfInBounds_toArray, List.set_cons_zero, List.set_cons_succ]))
                        have HPD := Lib.hid (HPX.out.below ((Below.refl _ _).drew : Below wc.heap.size wc wc.drew))
                        clear p0 p1 p2
                        obtain ⟨wd, hwd⟩ : ∃ u, u = wc.drew := ⟨_, rfl⟩
                        rw [← hwd] at HPD ⊢
                        clear hwd
                        have G0 := HPD.out.start
                        have HSS : ∀ u rs, GrI V0.heap.size wd u rs → u.cell? ⟨u1.heap.size, 0, none⟩ = some c1 ∧ u.cell? ⟨u1.heap.size, 1, none⟩ = some h1 ∧ u.cell? ⟨u1.heap.size, 2, none⟩ = some r1 := fun u rs g => ⟨(g.box _ _ _ (by decide) HPD.out.prf).cell (i := 0) rfl, (g.box _ _ _ (by decide) HPD.out.prf).cell (i := 1) rfl, (g.box _ _ _ (by decide) HPD.out.prf).cell (i := 2) rfl⟩
                        refine wpV_or (by kernel_rfl) (fun K hK => ?_) ?_
                        · skip
                          refine GrI.lit2 _ _ rfl G0 3 rfl HI4.out.2.1 HI4.out.2.2 rfl rfl ?_
                          intro x1 w1 G1
                          refine hK.out _ _ (HSS _ _ G1) (fun _ => ?_)
                          clear hK K
                          (try simp only [Act.put, List.setIfInBounds_toArray, List.set_cons_zero, List.set_cons_succ])
                          refine wpV_or (by kernel_rfl) (fun K hK => ?_) ?_
                          · skip
                            refine GrI.app _ _ rfl G1 0 3 rfl rfl (by simp) (2 * k + 2) (by have := HLC.out; simp only [List.length_cons, List.length_nil]; omega) (by have := HKE.out; have := HN9.out; omega) rfl rfl ?_
                            intro a2 c2 w2 G2
                            refine hK.out _ _ (HSS _ _ G2) (fun _ => ?_)
                            clear hK K
                            (try simp only [Act.put, List.setIfInBounds_toArray, List.set_cons_zero, List.set_cons_succ])
                            refine' wpV_read _ (by kernel_rfl) (fun w' hS' => ?_) ?_; rotate_left; · ((try dsimp only at hS'); go_simp; (try with_reducible rfl))
                            (try simp only [Act.put, List.setIfInBounds_toArray, List.set_cons_zero, List.set_cons_succ])
                            refine wpV_or (by kernel_rfl) (fun K hK => ?_) ?_
                            · skip
                              refine GrI.lit1 _ rfl G2 4 rfl HI4.out.1.1 rfl ?_
                              intro x3 w3 G3
                              refine hK.out _ _ (HSS _ _ G3) (fun _ => ?_)
                              clear hK K
                              (try simp only [Act.put, List.setIfInBounds_toArray, List.set_cons_zero, List.set_cons_succ])
                              refine wpV_or (by kernel_rfl) (fun K hK => ?_) ?_
                              · skip
                                refine GrI.app _ _ rfl G3 1 4 rfl rfl (by simp) (k + 1) (by have := HLH.out; simp only [List.length_cons, List.length_nil]; omega) (by have := HKE.out; have := HN9.out; omega) rfl rfl ?_
                                intro a4 c4 w4 G4
                                refine hK.out _ _ (HSS _ _ G4) (fun _ => ?_)
                                clear hK K
                                (try simp only [Act.put, List.setIfInBounds_toArray, List.set_cons_zero, List.set_cons_succ])
                                refine wpV_do (by kernel_rfl) (fun K hK => ?_)
                                refine GrI.lit1 _ rfl G4 5 rfl HI4.out.1.2 rfl ?_
                                intro x5 w5 G5
                                refine hK.out _ _ (HSS _ _ G5) (fun _ => ?_)
                                clear hK K
                                (try simp only [Act.put, List.setIfInBounds_toArray, List.set_cons_zero, List.set_cons_succ])
                                refine wpV_do (by kernel_rfl) (fun K hK => ?_)
                                refine GrI.app _ _ rfl G5 2 5 rfl rfl (by simp) (k + 1) (by have := HLR.out; simp only [List.length_cons, List.length_nil]; omega) (by have := HKE.out; have := HN9.out; omega) rfl rfl ?_
                                intro a6 c6 w6 G6
                                refine hK.out _ _ (HSS _ _ G6) (fun _ => ?_)
                                clear hK K
                                (try simp only [Act.put, List.setIfInBounds_toArray, List.set_cons_zero, List.set_cons_succ])
                                refine wpV_done ?_
                                have hp := G6.box _ _ _ (by decide) HPD.out.prf
                                have r0 := hp.cell (i := 0) rfl
                                have r1 := hp.cell (i := 1) rfl
                                have r2 := hp.cell (i := 2) rfl
                                have fr := fun j => hp.frozen j
                                have HPZ := Lib.hid (HPD.out.grow G6)
                                go_wp2_with fail
                                refine NoPanic.normal ?_
                                clear r0 r1 r2 fr hp
                                go_wp2_with fail
                                go_roundg (evn - (k + 1))
                                case measure => exact hgl hlt
                                case rel => exact ⟨k + 1, by have := HKG.out; omega, by go_num, rfl, _, _, _, by rw [HYY.out.1, HYY.out.2.1, HYY.out.2.2]; exact HPZ.out⟩
                              refine wpV_do (by kernel_rfl) (fun K hK => ?_)
                              refine GrI.lit1 _ rfl G3 5 rfl HI4.out.1.2 rfl ?_
                              intro x7 w7 G7
                              refine hK.out _ _ (HSS _ _ G7) (fun _ => ?_)
                              clear hK K
                              (try simp only [Act.put, List.setIfInBounds_toArray, List.set_cons_zero, List.set_cons_succ])
                              refine wpV_do (by kernel_rfl) (fun K hK => ?_)
                              refine GrI.app _ _ rfl G7 1 4 rfl rfl (by simp) (k + 1) (by have := HLH.out; simp only [List.length_cons, List.length_nil]; omega) (by have := HKE.out; have := HN9.out; omega) rfl rfl ?_
                              intro a8 c8 w8 G8
                              refine hK.out _ _ (HSS _ _ G8) (fun _ => ?_)
                              clear hK K
                              (try simp only [Act.put, List.setIfInBounds_toArray, List.set_cons_zero, List.set_cons_succ])
                              refine wpV_do (by kernel_rfl) (fun K hK => ?_)
                              refine GrI.app _ _ rfl G8 2 5 rfl rfl (by simp) (k + 1) (by have := HLR.out; simp only [List.length_cons, List.length_nil]; omega) (by have := HKE.out; have := HN9.out; omega) rfl rfl ?_
                              intro a9 c9 w9 G9
                              refine hK.out _ _ (HSS _ _ G9) (fun _ => ?_)
                              clear hK K
                              (try simp only [Act.put, List.setIfInBounds_toArray, List.set_cons_zero, List.set_cons_succ])
                              refine wpV_done ?_
                              have hp := G9.box _ _ _ (by decide) HPD.out.prf
                              have r0 := hp.cell (i := 0) rfl
                              have r1 := hp.cell (i := 1) rfl
                              have r2 := hp.cell (i := 2) rfl
                              have fr := fun j => hp.frozen j
                              have HPZ := Lib.hid (HPD.out.grow G9)
                              go_wp2_with fail
                              refine NoPanic.normal ?_
                              clear r0 r1 r2 fr hp
                              go_wp2_with fail
                              go_roundg (evn - (k + 1))
                              case measure => exact hgl hlt
                              case rel => exact ⟨k + 1, by have := HKG.out; omega, by go_num, rfl, _, _, _, by rw [HYY.out.1, HYY.out.2.1, HYY.out.2.2]; exact HPZ.out⟩
                            refine wpV_do (by kernel_rfl) (fun K hK => ?_)
                            refine GrI.lit1 _ rfl G2 5 rfl HI4.out.1.2 rfl ?_
                            intro x10 w10 G10
                            refine hK.out _ _ (HSS _ _ G10) (fun _ => ?_)
                            clear hK K
                            (try simp only [Act.put, List.setIfInBounds_toArray, List.set_cons_zero, List.set_cons_succ])
                            refine wpV_do (by kernel_rfl) (fun K hK => ?_)
                            refine GrI.lit1 _ rfl G10 4 rfl HI4.out.1.1 rfl ?_
                            intro x11 w11 G11
                            refine hK.out _ _ (HSS _ _ G11) (fun _ => ?_)
                            clear hK K
                            (try simp only [Act.put, List.setIfInBounds_toArray, List.set_cons_zero, List.set_cons_succ])
                            refine wpV_do (by kernel_rfl) (fun K hK => ?_)
                            refine GrI.app _ _ rfl G11 1 4 rfl rfl (by simp) (k + 1) (by have := HLH.out; simp only [List.length_cons, List.length_nil]; omega) (by have := HKE.out; have := HN9.out; omega) rfl rfl ?_
                            intro a12 c12 w12 G12
                            refine hK.out _ _ (HSS _ _ G12) (fun _ => ?_)
                            clear hK K
                            (try simp only [Act.put, List.setIfInBounds_toArray, List.set_cons_zero, List.set_cons_succ])
                            refine wpV_do (by kernel_rfl) (fun K hK => ?_)
                            refine GrI.app _ _ rfl G12 2 5 rfl rfl (by simp) (k + 1) (by have := HLR.out; simp only [List.length_cons, List.length_nil]; omega) (by have := HKE.out; have := HN9.out; omega) rfl rfl ?_
                            intro a13 c13 w13 G13
                            refine hK.out _ _ (HSS _ _ G13) (fun _ => ?_)
                            clear hK K
                            (try simp only [Act.put, List.setIfInBounds_toArray, List.set_cons_zero, List.set_cons_succ])
                            refine wpV_done ?_
                            have hp := G13.box _ _ _ (by decide) HPD.out.prf
                            have r0 := hp.cell (i := 0) rfl
                            have r1 := hp.cell (i := 1) rfl
                            have r2 := hp.cell (i := 2) rfl
                            have fr := fun j => hp.frozen j
                            have HPZ := Lib.hid (HPD.out.grow G13)
                            go_wp2_with fail
                            refine NoPanic.normal ?_
                            clear r0 r1 r2 fr hp
                            go_wp2_with fail
                            go_roundg (evn - (k + 1))
                            case measure => exact hgl hlt
                            case rel => exact ⟨k + 1, by have := HKG.out; omega, by go_num, rfl, _, _, _, by rw [HYY.out.1, HYY.out.2.1, HYY.out.2.2]; exact HPZ.out⟩
                          refine wpV_or (by kernel_rfl) (fun K hK => ?_) ?_
                          · skip
                            refine GrI.lit1 _ rfl G1 4 rfl HI4.out.1.1 rfl ?_
                            intro x14 w14 G14
                            refine hK.out _ _ (HSS _ _ G14) (fun _ => ?_)
                            clear hK K
                            (try simp only [Act.put, List.setIfInBounds_toArray, List.set_cons_zero, List.set_cons_succ])
                            refine wpV_or (by kernel_rfl) (fun K hK => ?_) ?_
                            · skip
                              refine GrI.app _ _ rfl G14 0 3 rfl rfl (by simp) (2 * k + 2) (by have := HLC.out; simp only [List.length_cons, List.length_nil]; omega) (by have := HKE.out; have := HN9.out; omega) rfl rfl ?_
                              intro a15 c15 w15 G15
                              refine hK.out _ _ (HSS _ _ G15) (fun _ => ?_)
                              clear hK K
                              (try simp only [Act.put, List.setIfInBounds_toArray, List.set_cons_zero, List.set_cons_succ])
                              refine' wpV_read _ (by kernel_rfl) (fun w' hS' => ?_) ?_; rotate_left; · ((try dsimp only at hS'); go_simp; (try with_reducible rfl))
                              (try simp only [Act.put, List.setIfInBounds_toArray, List.set_cons_zero, List.set_cons_succ])
                              refine wpV_or (by kernel_rfl) (fun K hK => ?_) ?_
                              · skip
                                refine GrI.app _ _ rfl G15 1 4 rfl rfl (by simp) (k + 1) (by have := HLH.out; simp only [List.length_cons, List.length_nil]; omega) (by have := HKE.out; have := HN9.out; omega) rfl rfl ?_
                                intro a16 c16 w16 G16
                                refine hK.out _ _ (HSS _ _ G16) (fun _ => ?_)
                                clear hK K
                                (try simp only [Act.put, List.setIfInBounds_toArray, List.set_cons_zero, List.set_cons_succ])
                                refine wpV_do (by kernel_rfl) (fun K hK => ?_)
                                refine GrI.lit1 _ rfl G16 5 rfl HI4.out.1.2 rfl ?_
                                intro x17 w17 G17
                                refine hK.out _ _ (HSS _ _ G17) (fun _ => ?_)
                                clear hK K
                                (try simp only [Act.put, List.setIfInBounds_toArray, List.set_cons_zero, List.set_cons_succ])
                                refine wpV_do (by kernel_rfl) (fun K hK => ?_)
                                refine GrI.app _ _ rfl G17 2 5 rfl rfl (by simp) (k + 1) (by have := HLR.out; simp only [List.length_cons, List.length_nil]; omega) (by have := HKE.out; have := HN9.out; omega) rfl rfl ?_
                                intro a18 c18 w18 G18
                                refine hK.out _ _ (HSS _ _ G18) (fun _ => ?_)
                                clear hK K
                                (try simp only [Act.put, List.setIfInBounds_toArray, List.set_cons_zero, List.set_cons_succ])
                                refine wpV_done ?_
                                have hp := G18.box _ _ _ (by decide) HPD.out.prf
                                have r0 := hp.cell (i := 0) rfl
                                have r1 := hp.cell (i := 1) rfl
                                have r2 := hp.cell (i := 2) rfl
                                have fr := fun j => hp.frozen j
                                have HPZ := Lib.hid (HPD.out.grow G18)
                                go_wp2_with fail
                                refine NoPanic.normal ?_
                                clear r0 r1 r2 fr hp
                                go_wp2_with fail
                                go_roundg (evn - (k + 1))
                                case measure => exact hgl hlt
                                case rel => exact ⟨k + 1, by have := HKG.out; omega, by go_num, rfl, _, _, _, by rw [HYY.out.1, HYY.out.2.1, HYY.out.2.2]; exact HPZ.out⟩
                              refine wpV_do (by kernel_rfl) (fun K hK => ?_)
                              refine GrI.lit1 _ rfl G15 5 rfl HI4.out.1.2 rfl ?_
                              intro x19 w19 G19
                              refine hK.out _ _ (HSS _ _ G19) (fun _ => ?_)
                              clear hK K
                              (try simp only [Act.put, List.setIfInBounds_toArray, List.set_cons_zero, List.set_cons_succ])
                              refine wpV_do (by kernel_rfl) (fun K hK => ?_)
                              refine GrI.app _ _ rfl G19 1 4 rfl rfl (by simp) (k + 1) (by have := HLH.out; simp only [List.length_cons, List.length_nil]; omega) (by have := HKE.out; have := HN9.out; omega) rfl rfl ?_
                              intro a20 c20 w20 G20
                              refine hK.out _ _ (HSS _ _ G20) (fun _ => ?_)
                              clear hK K
                              (try simp only [Act.put, List.setIfInBounds_toArray, List.set_cons_zero, List.set_cons_succ])
                              refine wpV_do (by kernel_rfl) (fun K hK => ?_)
                              refine GrI.app _ _ rfl G20 2 5 rfl rfl (by simp) (k + 1) (by have := HLR.out; simp only [List.length_cons, List.length_nil]; omega) (by have := HKE.out; have := HN9.out; omega) rfl rfl ?_
                              intro a21 c21 w21 G21
                              refine hK.out _ _ (HSS _ _ G21) (fun _ => ?_)
                              clear hK K
                              (try simp only [Act.put, List.setIfInBounds_toArray, List.set_cons_zero, List.set_cons_succ])
                              refine wpV_done ?_
                              have hp := G21.box _ _ _ (by decide) HPD.out.prf
                              have r0 := hp.cell (i := 0) rfl
                              have r1 := hp.cell (i := 1) rfl
                              have r2 := hp.cell (i := 2) rfl
                              have fr := fun j => hp.frozen j
                              have HPZ := Lib.hid (HPD.out.grow G21)
                              go_wp2_with fail
                              refine NoPanic.normal ?_
                              clear r0 r1 r2 fr hp
                              go_wp2_with fail
                              go_roundg (evn - (k + 1))
                              case measure => exact hgl hlt
                              case rel => exact ⟨k + 1, by have := HKG.out; omega, by go_num, rfl, _, _, _, by rw [HYY.out.1, HYY.out.2.1, HYY.out.2.2]; exact HPZ.out⟩
                            refine wpV_do (by kernel_rfl) (fun K hK => ?_)
                            refine GrI.lit1 _ rfl G14 5 rfl HI4.out.1.2 rfl ?_
                            intro x22 w22 G22
                            refine hK.out _ _ (HSS _ _ G22) (fun _ => ?_)
                            clear hK K
                            (try simp only [Act.put, List.setIfInBounds_toArray, List.set_cons_zero, List.set_cons_succ])
                            refine wpV_do (by kernel_rfl) (fun K hK => ?_)
                            refine GrI.app _ _ rfl G22 0 3 rfl rfl (by simp) (2 * k + 2) (by have := HLC.out; simp only [List.length_cons, List.length_nil]; omega) (by have := HKE.out; have := HN9.out; omega) rfl rfl ?_
                            intro a23 c23 w23 G23
                            refine hK.out _ _ (HSS _ _ G23) (fun _ => ?_)
                            clear hK K
                            (try simp only [Act.put, List.setIfInBounds_toArray, List.set_cons_zero, List.set_cons_succ])
                            refine' wpV_read _ (by kernel_rfl) (fun w' hS' => ?_) ?_; rotate_left; · ((try dsimp only at hS'); go_simp; (try with_reducible rfl))
                            (try simp only [Act.put, List.setIfInBounds_toArray, List.set_cons_zero, List.set_cons_succ])
                            refine wpV_do (by kernel_rfl) (fun K hK => ?_)
                            refine GrI.app _ _ rfl G23 1 4 rfl rfl (by simp) (k + 1) (by have := HLH.out; simp only [List.length_cons, List.length_nil]; omega) (by have := HKE.out; have := HN9.out; omega) rfl rfl ?_
                            intro a24 c24 w24 G24
                            refine hK.out _ _ (HSS _ _ G24) (fun _ => ?_)
                            clear hK K
                            (try simp only [Act.put, List.setIfInBounds_toArray, List.set_cons_zero, List.set_cons_succ])
                            refine wpV_do (by kernel_rfl) (fun K hK => ?_)
                            refine GrI.app _ _ rfl G24 2 5 rfl rfl (by simp) (k + 1) (by have := HLR.out; simp only [List.length_cons, List.length_nil]; omega) (by have := HKE.out; have := HN9.out; omega) rfl rfl ?_
                            intro a25 c25 w25 G25
                            refine hK.out _ _ (HSS _ _ G25) (fun _ => ?_)
                            clear hK K
                            (try simp only [Act.put, List.setIfInBounds_toArray, List.set_cons_zero, List.set_cons_succ])
                            refine wpV_done ?_
                            have hp := G25.box _ _ _ (by decide) HPD.out.prf
                            have r0 := hp.cell (i := 0) rfl
                            have r1 := hp.cell (i := 1) rfl
                            have r2 := hp.cell (i := 2) rfl
                            have fr := fun j => hp.frozen j
                            have HPZ := Lib.hid (HPD.out.grow G25)
                            go_wp2_with fail
                            refine NoPanic.normal ?_
                            clear r0 r1 r2 fr hp
                            go_wp2_with fail
                            go_roundg (evn - (k + 1))
                            case measure => exact hgl hlt
                            case rel => exact ⟨k + 1, by have := HKG.out; omega, by go_num, rfl, _, _, _, by rw [HYY.out.1, HYY.out.2.1, HYY.out.2.2]; exact HPZ.out⟩
                          refine wpV_do (by kernel_rfl) (fun K hK => ?_)
                          refine GrI.lit1 _ rfl G1 5 rfl HI4.out.1.2 rfl ?_
                          intro x26 w26 G26
                          refine hK.out _ _ (HSS _ _ G26) (fun _ => ?_)
                          clear hK K
                          (try simp only [Act.put, List.setIfInBounds_toArray, List.set_cons_zero, List.set_cons_succ])
                          refine wpV_or (by kernel_rfl) (fun K hK => ?_) ?_
                          · skip
                            refine GrI.app _ _ rfl G26 0 3 rfl rfl (by simp) (2 * k + 2) (by have := HLC.out; simp only [List.length_cons, List.length_nil]; omega) (by have := HKE.out; have := HN9.out; omega) rfl rfl ?_
                            intro a27 c27 w27 G27
                            refine hK.out _ _ (HSS _ _ G27) (fun _ => ?_)
                            clear hK K
                            (try simp only [Act.put, List.setIfInBounds_toArray, List.set_cons_zero, List.set_cons_succ])
                            refine' wpV_read _ (by kernel_rfl) (fun w' hS' => ?_) ?_; rotate_left; · ((try dsimp only at hS'); go_simp; (try with_reducible rfl))
                            (try simp only [Act.put, List.setIfInBounds_toArray, List.set_cons_zero, List.set_cons_succ])
                            refine wpV_do (by kernel_rfl) (fun K hK => ?_)
                            refine GrI.lit1 _ rfl G27 4 rfl HI4.out.1.1 rfl ?_
                            intro x28 w28 G28
                            refine hK.out _ _ (HSS _ _ G28) (fun _ => ?_)
                            clear hK K
                            (try simp only [Act.put, List.setIfInBounds_toArray, List.set_cons_zero, List.set_cons_succ])
                            refine wpV_do (by kernel_rfl) (fun K hK => ?_)
                            refine GrI.app _ _ rfl G28 1 4 rfl rfl (by simp) (k + 1) (by have := HLH.out; simp only [List.length_cons, List.length_nil]; omega) (by have := HKE.out; have := HN9.out; omega) rfl rfl ?_
                            intro a29 c29 w29 G29
                            refine hK.out _ _ (HSS _ _ G29) (fun _ => ?_)
                            clear hK K
                            (try simp only [Act.put, List.setIfInBounds_toArray, List.set_cons_zero, List.set_cons_succ])
                            refine wpV_do (by kernel_rfl) (fun K hK => ?_)
                            refine GrI.app _ _ rfl G29 2 5 rfl rfl (by simp) (k + 1) (by have := HLR.out; simp only [List.length_cons, List.length_nil]; omega) (by have := HKE.out; have := HN9.out; omega) rfl rfl ?_
                            intro a30 c30 w30 G30
                            refine hK.out _ _ (HSS _ _ G30) (fun _ => ?_)
                            clear hK K
                            (try simp only [Act.put, List.setIfInBounds_toArray, List.set_cons_zero, List.set_cons_succ])
                            refine wpV_done ?_
                            have hp := G30.box _ _ _ (by decide) HPD.out.prf
                            have r0 := hp.cell (i := 0) rfl
                            have r1 := hp.cell (i := 1) rfl
                            have r2 := hp.cell (i := 2) rfl
                            have fr := fun j => hp.frozen j
                            have HPZ := Lib.hid (HPD.out.grow G30)
                            go_wp2_with fail
                            refine NoPanic.normal ?_
                            clear r0 r1 r2 fr hp
                            go_wp2_with fail
                            go_roundg (evn - (k + 1))
                            case measure => exact hgl hlt
                            case rel => exact ⟨k + 1, by have := HKG.out; omega, by go_num, rfl, _, _, _, by rw [HYY.out.1, HYY.out.2.1, HYY.out.2.2]; exact HPZ.out⟩
                          refine wpV_do (by kernel_rfl) (fun K hK => ?_)
                          refine GrI.lit1 _ rfl G26 4 rfl HI4.out.1.1 rfl ?_
                          intro x31 w31 G31
                          refine hK.out _ _ (HSS _ _ G31) (fun _ => ?_)
                          clear hK K
                          (try simp only [Act.put, List.setIfInBounds_toArray, List.set_cons_zero, List.set_cons_succ])
                          refine wpV_do (by kernel_rfl) (fun K hK => ?_)
                          refine GrI.app _ _ rfl G31 0 3 rfl rfl (by simp) (2 * k + 2) (by have := HLC.out; simp only [List.length_cons, List.length_nil]; omega) (by have := HKE.out; have := HN9.out; omega) rfl rfl ?_
                          intro a32 c32 w32 G32
                          refine hK.out _ _ (HSS _ _ G32) (fun _ => ?_)
                          clear hK K
                          (try simp only [Act.put, List.setIfInBounds_toArray, List.set_cons_zero, List.set_cons_succ])
                          refine' wpV_read _ (by kernel_rfl) (fun w' hS' => ?_) ?_; rotate_left; · ((try dsimp only at hS'); go_simp; (try with_reducible rfl))
                          (try simp only [Act.put, List.setIfInBounds_toArray, List.set_cons_zero, List.set_cons_succ])
                          refine wpV_do (by kernel_rfl) (fun K hK => ?_)
                          refine GrI.app _ _ rfl G32 1 4 rfl rfl (by simp) (k + 1) (by have := HLH.out; simp only [List.length_cons, List.length_nil]; omega) (by have := HKE.out; have := HN9.out; omega) rfl rfl ?_
                          intro a33 c33 w33 G33
                          refine hK.out _ _ (HSS _ _ G33) (fun _ => ?_)
                          clear hK K
                          (try simp only [Act.put, List.setIfInBounds_toArray, List.set_cons_zero, List.set_cons_succ])
                          refine wpV_do (by kernel_rfl) (fun K hK => ?_)
                          refine GrI.app _ _ rfl G33 2 5 rfl rfl (by simp) (k + 1) (by have := HLR.out; simp only [List.length_cons, List.length_nil]; omega) (by have := HKE.out; have := HN9.out; omega) rfl rfl ?_
                          intro a34 c34 w34 G34
                          refine hK.out _ _ (HSS _ _ G34) (fun _ => ?_)
                          clear hK K
                          (try simp only [Act.put, List.setIfInBounds_toArray, List.set_cons_zero, List.set_cons_succ])
                          refine wpV_done ?_
                          have hp := G34.box _ _ _ (by decide) HPD.out.prf
                          have r0 := hp.cell (i := 0) rfl
                          have r1 := hp.cell (i := 1) rfl
                          have r2 := hp.cell (i := 2) rfl
                          have fr := fun j => hp.frozen j
                          have HPZ := Lib.hid (HPD.out.grow G34)
                          go_wp2_with fail
                          refine NoPanic.normal ?_
                          clear r0 r1 r2 fr hp
                          go_wp2_with fail
                          go_roundg (evn - (k + 1))
                          case measure => exact hgl hlt
                          case rel => exact ⟨k + 1, by have := HKG.out; omega, by go_num, rfl, _, _, _, by rw [HYY.out.1, HYY.out.2.1, HYY.out.2.2]; exact HPZ.out⟩
                        refine wpV_or (by kernel_rfl) (fun K hK => ?_) ?_
                        · skip
                          refine GrI.lit1 _ rfl G0 4 rfl HI4.out.1.1 rfl ?_
                          intro x35 w35 G35
                          refine hK.out _ _ (HSS _ _ G35) (fun _ => ?_)
                          clear hK K
                          (try simp only [Act.put, List.setIfInBounds_toArray, List.set_cons_zero, List.set_cons_succ])
                          refine wpV_or (by kernel_rfl) (fun K hK => ?_) ?_
                          · skip
                            refine GrI.lit2 _ _ rfl G35 3 rfl HI4.out.2.1 HI4.out.2.2 rfl rfl ?_
                            intro x36 w36 G36
                            refine hK.out _ _ (HSS _ _ G36) (fun _ => ?_)
                            clear hK K
                            (try simp only [Act.put, List.setIfInBounds_toArray, List.set_cons_zero, List.set_cons_succ])
                            refine wpV_or (by kernel_rfl) (fun K hK => ?_) ?_
                            · skip
                              refine GrI.app _ _ rfl G36 0 3 rfl rfl (by simp) (2 * k + 2) (by have := HLC.out; simp only [List.length_cons, List.length_nil]; omega) (by have := HKE.out; have := HN9.out; omega) rfl rfl ?_
                              intro a37 c37 w37 G37
                              refine hK.out _ _ (HSS _ _ G37) (fun _ => ?_)
                              clear hK K
                              (try simp only [Act.put, List.setIfInBounds_toArray, List.set_cons_zero, List.set_cons_succ])
                              refine' wpV_read _ (by kernel_rfl) (fun w' hS' => ?_) ?_; rotate_left; · ((try dsimp only at hS'); go_simp; (try with_reducible rfl))
                              (try simp only [Act.put, List.setIfInBounds_toArray, List.set_cons_zero, List.set_cons_succ])
                              refine wpV_or (by kernel_rfl) (fun K hK => ?_) ?_
                              · skip
                                refine GrI.app _ _ rfl G37 1 4 rfl rfl (by simp) (k + 1) (by have := HLH.out; simp only [List.length_cons, List.length_nil]; omega) (by have := HKE.out; have := HN9.out; omega) rfl rfl ?_
                                intro a38 c38 w38 G38
                                refine hK.out _ _ (HSS _ _ G38) (fun _ => ?_)
                                clear hK K
                                (try simp only [Act.put, List.setIfInBounds_toArray, List.set_cons_zero, List.set_cons_succ])
                                refine wpV_do (by kernel_rfl) (fun K hK => ?_)
                                refine GrI.lit1 _ rfl G38 5 rfl HI4.out.1.2 rfl ?_
                                intro x39 w39 G39
                                refine hK.out _ _ (HSS _ _ G39) (fun _ => ?_)
                                clear hK K
                                (try simp only [Act.put, List.setIfInBounds_toArray, List.set_cons_zero, List.set_cons_succ])
                                refine wpV_do (by kernel_rfl) (fun K hK => ?_)
                                refine GrI.app _ _ rfl G39 2 5 rfl rfl (by simp) (k + 1) (by have := HLR.out; simp only [List.length_cons, List.length_nil]; omega) (by have := HKE.out; have := HN9.out; omega) rfl rfl ?_
                                intro a40 c40 w40 G40
                                refine hK.out _ _ (HSS _ _ G40) (fun _ => ?_)
                                clear hK K
                                (try simp only [Act.put, List.setIfInBounds_toArray, List.set_cons_zero, List.set_cons_succ])
                                refine wpV_done ?_
                                have hp := G40.box _ _ _ (by decide) HPD.out.prf
                                have r0 := hp.cell (i := 0) rfl
                                have r1 := hp.cell (i := 1) rfl
                                have r2 := hp.cell (i := 2) rfl
                                have fr := fun j => hp.frozen j
                                have HPZ := Lib.hid (HPD.out.grow G40)
                                go_wp2_with fail
                                refine NoPanic.normal ?_
                                clear r0 r1 r2 fr hp
                                go_wp2_with fail
                                go_roundg (evn - (k + 1))
                                case measure => exact hgl hlt
                                case rel => exact ⟨k + 1, by have := HKG.out; omega, by go_num, rfl, _, _, _, by rw [HYY.out.1, HYY.out.2.1, HYY.out.2.2]; exact HPZ.out⟩
                              refine wpV_do (by kernel_rfl) (fun K hK => ?_)
                              refine GrI.lit1 _ rfl G37 5 rfl HI4.out.1.2 rfl ?_
                              intro x41 w41 G41
                              refine hK.out _ _ (HSS _ _ G41) (fun _ => ?_)
                              clear hK K
                              (try simp only [Act.put, List.setIfInBounds_toArray, List.set_cons_zero, List.set_cons_succ])
                              refine wpV_do (by kernel_rfl) (fun K hK => ?_)
                              refine GrI.app _ _ rfl G41 1 4 rfl rfl (by simp) (k + 1) (by have := HLH.out; simp only [List.length_cons, List.length_nil]; omega) (by have := HKE.out; have := HN9.out; omega) rfl rfl ?_
                              intro a42 c42 w42 G42
                              refine hK.out _ _ (HSS _ _ G42) (fun _ => ?_)
                              clear hK K
                              (try simp only [Act.put, List.setIfInBounds_toArray, List.set_cons_zero, List.set_cons_succ])
                              refine wpV_do (by kernel_rfl) (fun K hK => ?_)
                              refine GrI.app _ _ rfl G42 2 5 rfl rfl (by simp) (k + 1) (by have := HLR.out; simp only [List.length_cons, List.length_nil]; omega) (by have := HKE.out; have := HN9.out; omega) rfl rfl ?_
                              intro a43 c43 w43 G43
                              refine hK.out _ _ (HSS _ _ G43) (fun _ => ?_)
                              clear hK K
                              (try simp only [Act.put, List.setIfInBounds_toArray, List.set_cons_zero, List.set_cons_succ])
                              refine wpV_done ?_
                              have hp := G43.box _ _ _ (by decide) HPD.out.prf
                              have r0 := hp.cell (i := 0) rfl
                              have r1 := hp.cell (i := 1) rfl
                              have r2 := hp.cell (i := 2) rfl
                              have fr := fun j => hp.frozen j
                              have HPZ := Lib.hid (HPD.out.grow G43)
                              go_wp2_with fail
                              refine NoPanic.normal ?_
                              clear r0 r1 r2 fr hp
                              go_wp2_with fail
                              go_roundg (evn - (k + 1))
                              case measure => exact hgl hlt
                              case rel => exact ⟨k + 1, by have := HKG.out; omega, by go_num, rfl, _, _, _, by rw [HYY.out.1, HYY.out.2.1, HYY.out.2.2]; exact HPZ.out⟩
                            refine wpV_do (by kernel_rfl) (fun K hK => ?_)
                            refine GrI.lit1 _ rfl G36 5 rfl HI4.out.1.2 rfl ?_
                            intro x44 w44 G44
                            refine hK.out _ _ (HSS _ _ G44) (fun _ => ?_)
                            clear hK K
                            (try simp only [Act.put, List.setIfInBounds_toArray, List.set_cons_zero, List.set_cons_succ])
                            refine wpV_do (by kernel_rfl) (fun K hK => ?_)
                            refine GrI.app _ _ rfl G44 0 3 rfl rfl (by simp) (2 * k + 2) (by have := HLC.out; simp only [List.length_cons, List.length_nil]; omega) (by have := HKE.out; have := HN9.out; omega) rfl rfl ?_
                            intro a45 c45 w45 G45
                            refine hK.out _ _ (HSS _ _ G45) (fun _ => ?_)
                            clear hK K
                            (try simp only [Act.put, List.setIfInBounds_toArray, List.set_cons_zero, List.set_cons_succ])
                            refine' wpV_read _ (by kernel_rfl) (fun w' hS' => ?_) ?_; rotate_left; · ((try dsimp only at hS'); go_simp; (try with_reducible rfl))
                            (try simp only [Act.put, List.setIfInBounds_toArray, List.set_cons_zero, List.set_cons_succ])
                            refine wpV_do (by kernel_rfl) (fun K hK => ?_)
                            refine GrI.app _ _ rfl G45 1 4 rfl rfl (by simp) (k + 1) (by have := HLH.out; simp only [List.length_cons, List.length_nil]; omega) (by have := HKE.out; have := HN9.out; omega) rfl rfl ?_
                            intro a46 c46 w46 G46
                            refine hK.out _ _ (HSS _ _ G46) (fun _ => ?_)
                            clear hK K
                            (try simp only [Act.put, List.setIfInBounds_toArray, List.set_cons_zero, List.set_cons_succ])
                            refine wpV_do (by kernel_rfl) (fun K hK => ?_)
                            refine GrI.app _ _ rfl G46 2 5 rfl rfl (by simp) (k + 1) (by have := HLR.out; simp only [List.length_cons, List.length_nil]; omega) (by have := HKE.out; have := HN9.out; omega) rfl rfl ?_
                            intro a47 c47 w47 G47
                            refine hK.out _ _ (HSS _ _ G47) (fun _ => ?_)
                            clear hK K
                            (try simp only [Act.put, List.setIfInBounds_toArray, List.set_cons_zero, List.set_cons_succ])
                            refine wpV_done ?_
                            have hp := G47.box _ _ _ (by decide) HPD.out.prf
                            have r0 := hp.cell (i := 0) rfl
                            have r1 := hp.cell (i := 1) rfl
                            have r2 := hp.cell (i := 2) rfl
                            have fr := fun j => hp.frozen j
                            have HPZ := Lib.hid (HPD.out.grow G47)
                            go_wp2_with fail
                            refine NoPanic.normal ?_
                            clear r0 r1 r2 fr hp
                            go_wp2_with fail
                            go_roundg (evn - (k + 1))
                            case measure => exact hgl hlt
                            case rel => exact ⟨k + 1, by have := HKG.out; omega, by go_num, rfl, _, _, _, by rw [HYY.out.1, HYY.out.2.1, HYY.out.2.2]; exact HPZ.out⟩
                          refine wpV_do (by kernel_rfl) (fun K hK => ?_)
                          refine GrI.lit1 _ rfl G35 5 rfl HI4.out.1.2 rfl ?_
                          intro x48 w48 G48
                          refine hK.out _ _ (HSS _ _ G48) (fun _ => ?_)
                          clear hK K
                          (try simp only [Act.put, List.setIfInBounds_toArray, List.set_cons_zero, List.set_cons_succ])
                          refine wpV_do (by kernel_rfl) (fun K hK => ?_)
                          refine GrI.lit2 _ _ rfl G48 3 rfl HI4.out.2.1 HI4.out.2.2 rfl rfl ?_
                          intro x49 w49 G49
                          refine hK.out _ _ (HSS _ _ G49) (fun _ => ?_)
                          clear hK K
                          (try simp only [Act.put, List.setIfInBounds_toArray, List.set_cons_zero, List.set_cons_succ])
                          refine wpV_do (by kernel_rfl) (fun K hK => ?_)
                          refine GrI.app _ _ rfl G49 0 3 rfl rfl (by simp) (2 * k + 2) (by have := HLC.out; simp only [List.length_cons, List.length_nil]; omega) (by have := HKE.out; have := HN9.out; omega) rfl rfl ?_
                          intro a50 c50 w50 G50
                          refine hK.out _ _ (HSS _ _ G50) (fun _ => ?_)
                          clear hK K
                          (try simp only [Act.put, List.setIfInBounds_toArray, List.set_cons_zero, List.set_cons_succ])
                          refine' wpV_read _ (by kernel_rfl) (fun w' hS' => ?_) ?_; rotate_left; · ((try dsimp only at hS'); go_simp; (try with_reducible rfl))
                          (try simp only [Act.put, List.setIfInBounds_toArray, List.set_cons_zero, List.set_cons_succ])
                          refine wpV_do (by kernel_rfl) (fun K hK => ?_)
                          refine GrI.app _ _ rfl G50 1 4 rfl rfl (by simp) (k + 1) (by have := HLH.out; simp only [List.length_cons, List.length_nil]; omega) (by have := HKE.out; have := HN9.out; omega) rfl rfl ?_
                          intro a51 c51 w51 G51
                          refine hK.out _ _ (HSS _ _ G51) (fun _ => ?_)
                          clear hK K
                          (try simp only [Act.put, List.setIfInBounds_toArray, List.set_cons_zero, List.set_cons_succ])
                          refine wpV_do (by kernel_rfl) (fun K hK => ?_)
                          refine GrI.app _ _ rfl G51 2 5 rfl rfl (by simp) (k + 1) (by have := HLR.out; simp only [List.length_cons, List.length_nil]; omega) (by have := HKE.out; have := HN9.out; omega) rfl rfl ?_
                          intro a52 c52 w52 G52
                          refine hK.out _ _ (HSS _ _ G52) (fun _ => ?_)
                          clear hK K
                          (try simp only [Act.put, List.setIfInBounds_toArray, List.set_cons_zero, List.set_cons_succ])
                          refine wpV_done ?_
                          have hp := G52.box _ _ _ (by decide) HPD.out.prf
                          have r0 := hp.cell (i := 0) rfl
                          have r1 := hp.cell (i := 1) rfl
                          have r2 := hp.cell (i := 2) rfl
                          have fr := fun j => hp.frozen j
                          have HPZ := Lib.hid (HPD.out.grow G52)
                          go_wp2_with fail
                          refine NoPanic.normal ?_
                          clear r0 r1 r2 fr hp
                          go_wp2_with fail
                          go_roundg (evn - (k + 1))
                          case measure => exact hgl hlt
                          case rel => exact ⟨k + 1, by have := HKG.out; omega, by go_num, rfl, _, _, _, by rw [HYY.out.1, HYY.out.2.1, HYY.out.2.2]; exact HPZ.out⟩
                        refine wpV_do (by kernel_rfl) (fun K hK => ?_)
                        refine GrI.lit1 _ rfl G0 5 rfl HI4.out.1.2 rfl ?_
                        intro x53 w53 G53
                        refine hK.out _ _ (HSS _ _ G53) (fun _ => ?_)
                        clear hK K
                        (try simp only [Act.put, List.setIfInBounds_toArray, List.set_cons_zero, List.set_cons_succ])
                        refine wpV_or (by kernel_rfl) (fun K hK => ?_) ?_
                        · skip
                          refine GrI.lit2 _ _ rfl G53 3 rfl HI4.out.2.1 HI4.out.2.2 rfl rfl ?_
                          intro x54 w54 G54
                          refine hK.out _ _ (HSS _ _ G54) (fun _ => ?_)
                          clear hK K
                          (try simp only [Act.put, List.setIfInBounds_toArray, List.set_cons_zero, List.set_cons_succ])
                          refine wpV_or (by kernel_rfl) (fun K hK => ?_) ?_
                          · skip
                            refine GrI.app _ _ rfl G54 0 3 rfl rfl (by simp) (2 * k + 2) (by have := HLC.out; simp only [List.length_cons, List.length_nil]; omega) (by have := HKE.out; have := HN9.out; omega) rfl rfl ?_
                            intro a55 c55 w55 G55
                            refine hK.out _ _ (HSS _ _ G55) (fun _ => ?_)
                            clear hK K
                            (try simp only [Act.put, List.setIfInBounds_toArray, List.set_cons_zero, List.set_cons_succ])
                            refine' wpV_read _ (by kernel_rfl) (fun w' hS' => ?_) ?_; rotate_left; · ((try dsimp only at hS'); go_simp; (try with_reducible rfl))
                            (try simp only [Act.put, List.setIfInBounds_toArray, List.set_cons_zero, List.set_cons_succ])
                            refine wpV_do (by kernel_rfl) (fun K hK => ?_)
                            refine GrI.lit1 _ rfl G55 4 rfl HI4.out.1.1 rfl ?_
                            intro x56 w56 G56
                            refine hK.out _ _ (HSS _ _ G56) (fun _ => ?_)
                            clear hK K
                            (try simp only [Act.put, List.setIfInBounds_toArray, List.set_cons_zero, List.set_cons_succ])
                            refine wpV_do (by kernel_rfl) (fun K hK => ?_)
                            refine GrI.app _ _ rfl G56 1 4 rfl rfl (by simp) (k + 1) (by have := HLH.out; simp only [List.length_cons, List.length_nil]; omega) (by have := HKE.out; have := HN9.out; omega) rfl rfl ?_
                            intro a57 c57 w57 G57
                            refine hK.out _ _ (HSS _ _ G57) (fun _ => ?_)
                            clear hK K
                            (try simp only [Act.put, List.setIfInBounds_toArray, List.set_cons_zero, List.set_cons_succ])
                            refine wpV_do (by kernel_rfl) (fun K hK => ?_)
                            refine GrI.app _ _ rfl G57 2 5 rfl rfl (by simp) (k + 1) (by have := HLR.out; simp only [List.length_cons, List.length_nil]; omega) (by have := HKE.out; have := HN9.out; omega) rfl rfl ?_
                            intro a58 c58 w58 G58
                            refine hK.out _ _ (HSS _ _ G58) (fun _ => ?_)
                            clear hK K
                            (try simp only [Act.put, List.setIfInBounds_toArray, List.set_cons_zero, List.set_cons_succ])
                            refine wpV_done ?_
                            have hp := G58.box _ _ _ (by decide) HPD.out.prf
                            have r0 := hp.cell (i := 0) rfl
                            have r1 := hp.cell (i := 1) rfl
                            have r2 := hp.cell (i := 2) rfl
                            have fr := fun j => hp.frozen j
                            have HPZ := Lib.hid (HPD.out.grow G58)
                            go_wp2_with fail
                            refine NoPanic.normal ?_
                            clear r0 r1 r2 fr hp
                            go_wp2_with fail
                            go_roundg (evn - (k + 1))
                            case measure => exact hgl hlt
                            case rel => exact ⟨k + 1, by have := HKG.out; omega, by go_num, rfl, _, _, _, by rw [HYY.out.1, HYY.out.2.1, HYY.out.2.2]; exact HPZ.out⟩
                          refine wpV_do (by kernel_rfl) (fun K hK => ?_)
                          refine GrI.lit1 _ rfl G54 4 rfl HI4.out.1.1 rfl ?_
                          intro x59 w59 G59
                          refine hK.out _ _ (HSS _ _ G59) (fun _ => ?_)
                          clear hK K
                          (try simp only [Act.put, List.setIfInBounds_toArray, List.set_cons_zero, List.set_cons_succ])
                          refine wpV_do (by kernel_rfl) (fun K hK => ?_)
                          refine GrI.app _ _ rfl G59 0 3 rfl rfl (by simp) (2 * k + 2) (by have := HLC.out; simp only [List.length_cons, List.length_nil]; omega) (by have := HKE.out; have := HN9.out; omega) rfl rfl ?_
                          intro a60 c60 w60 G60
                          refine hK.out _ _ (HSS _ _ G60) (fun _ => ?_)
                          clear hK K
                          (try simp only [Act.put, List.setIfInBounds_toArray, List.set_cons_zero, List.set_cons_succ])
                          refine' wpV_read _ (by kernel_rfl) (fun w' hS' => ?_) ?_; rotate_left; · ((try dsimp only at hS'); go_simp; (try with_reducible rfl))
                          (try simp only [Act.put, List.setIfInBounds_toArray, List.set_cons_zero, List.set_cons_succ])
                          refine wpV_do (by kernel_rfl) (fun K hK => ?_)
                          refine GrI.app _ _ rfl G60 1 4 rfl rfl (by simp) (k + 1) (by have := HLH.out; simp only [List.length_cons, List.length_nil]; omega) (by have := HKE.out; have := HN9.out; omega) rfl rfl ?_
                          intro a61 c61 w61 G61
                          refine hK.out _ _ (HSS _ _ G61) (fun _ => ?_)
                          clear hK K
                          (try simp only [Act.put, List.setIfInBounds_toArray, List.set_cons_zero, List.set_cons_succ])
                          refine wpV_do (by kernel_rfl) (fun K hK => ?_)
                          refine GrI.app _ _ rfl G61 2 5 rfl rfl (by simp) (k + 1) (by have := HLR.out; simp only [List.length_cons, List.length_nil]; omega) (by have := HKE.out; have := HN9.out; omega) rfl rfl ?_
                          intro a62 c62 w62 G62
                          refine hK.out _ _ (HSS _ _ G62) (fun _ => ?_)
                          clear hK K
                          (try simp only [Act.put, List.setIfInBounds_toArray, List.set_cons_zero, List.set_cons_succ])
                          refine wpV_done ?_
                          have hp := G62.box _ _ _ (by decide) HPD.out.prf
                          have r0 := hp.cell (i := 0) rfl
                          have r1 := hp.cell (i := 1) rfl
                          have r2 := hp.cell (i := 2) rfl
                          have fr := fun j => hp.frozen j
                          have HPZ := Lib.hid (HPD.out.grow G62)
                          go_wp2_with fail
                          refine NoPanic.normal ?_
                          clear r0 r1 r2 fr hp
                          go_wp2_with fail
                          go_roundg (evn - (k + 1))
                          case measure => exact hgl hlt
                          case rel => exact ⟨k + 1, by have := HKG.out; omega, by go_num, rfl, _, _, _, by rw [HYY.out.1, HYY.out.2.1, HYY.out.2.2]; exact HPZ.out⟩
                        refine wpV_do (by kernel_rfl) (fun K hK => ?_)
                        refine GrI.lit1 _ rfl G53 4 rfl HI4.out.1.1 rfl ?_
                        intro x63 w63 G63
                        refine hK.out _ _ (HSS _ _ G63) (fun _ => ?_)
                        clear hK K
                        (try simp only [Act.put, List.setIfInBounds_toArray, List.set_cons_zero, List.set_cons_succ])
                        refine wpV_do (by kernel_rfl) (fun K hK => ?_)
                        refine GrI.lit2 _ _ rfl G63 3 rfl HI4.out.2.1 HI4.out.2.2 rfl rfl ?_
                        intro x64 w64 G64
                        refine hK.out _ _ (HSS _ _ G64) (fun _ => ?_)
                        clear hK K
                        (try simp only [Act.put, List.setIfInBounds_toArray, List.set_cons_zero, List.set_cons_succ])
                        refine wpV_do (by kernel_rfl) (fun K hK => ?_)
                        refine GrI.app _ _ rfl G64 0 3 rfl rfl (by simp) (2 * k + 2) (by have := HLC.out; simp only [List.length_cons, List.length_nil]; omega) (by have := HKE.out; have := HN9.out; omega) rfl rfl ?_
                        intro a65 c65 w65 G65
                        refine hK.out _ _ (HSS _ _ G65) (fun _ => ?_)
                        clear hK K
                        (try simp only [Act.put, List.setIfInBounds_toArray, List.set_cons_zero, List.set_cons_succ])
                        refine' wpV_read _ (by kernel_rfl) (fun w' hS' => ?_) ?_; rotate_left; · ((try dsimp only at hS'); go_simp; (try with_reducible rfl))
                        (try simp only [Act.put, List.setIfInBounds_toArray, List.set_cons_zero, List.set_cons_succ])
                        refine wpV_do (by kernel_rfl) (fun K hK => ?_)
                        refine GrI.app _ _ rfl G65 1 4 rfl rfl (by simp) (k + 1) (by have := HLH.out; simp only [List.length_cons, List.length_nil]; omega) (by have := HKE.out; have := HN9.out; omega) rfl rfl ?_
                        intro a66 c66 w66 G66
                        refine hK.out _ _ (HSS _ _ G66) (fun _ => ?_)
                        clear hK K
                        (try simp only [Act.put, List.setIfInBounds_toArray, List.set_cons_zero, List.set_cons_succ])
                        refine wpV_do (by kernel_rfl) (fun K hK => ?_)
                        refine GrI.app _ _ rfl G66 2 5 rfl rfl (by simp) (k + 1) (by have := HLR.out; simp only [List.length_cons, List.length_nil]; omega) (by have := HKE.out; have := HN9.out; omega) rfl rfl ?_
                        intro a67 c67 w67 G67
                        refine hK.out _ _ (HSS _ _ G67) (fun _ => ?_)
                        clear hK K
                        (try simp only [Act.put, List.setIfInBounds_toArray, List.set_cons_zero, List.set_cons_succ])
                        refine wpV_done ?_
                        have hp := G67.box _ _ _ (by decide) HPD.out.prf
                        have r0 := hp.cell (i := 0) rfl
                        have r1 := hp.cell (i := 1) rfl
                        have r2 := hp.cell (i := 2) rfl
                        have fr := fun j => hp.frozen j
                        have HPZ := Lib.hid (HPD.out.grow G67)
                        go_wp2_with fail
                        refine NoPanic.normal ?_
                        clear r0 r1 r2 fr hp
                        go_wp2_with fail
                        go_roundg (evn - (k + 1))
                        case measure => exact hgl hlt
                        case rel => exact ⟨k + 1, by have := HKG.out; omega, by go_num, rfl, _, _, _, by rw [HYY.out.1, HYY.out.2.1, HYY.out.2.2]; exact HPZ.out⟩
                    · obtain rfl : k = evn := by have := HKE.out; omega
                      have HNE : Hid (l.length = k) := Eev.out
                      have HCSM : Hid (AllSmall (ooCs gr l kk cs k)) := by unfold Hid; rw [← HNE.out]; exact els_small HG.out (oo_els HG.out HL.out kk cs)
                      have HLCe : Hid (ooCs gr l kk cs l.length = ooCs gr l kk cs k) := by unfold Hid; rw [HNE.out]
                      have HEE0 : Hid (ooE gr s l (ooCs gr l kk cs k) = ooE gr s l (ooCs gr l kk cs l.length)) := by unfold Hid; rw [HNE.out]
                      have HEB : Hid (expB gr (ooE gr s l (ooCs gr l kk cs k)) = true) := expV HG.out _ _
                      have HOD : Hid (ooOwn gr s l kk cs = (ooE gr s l (ooCs gr l kk cs k) - sumM gr.q (ooHs kk cs k)) % gr.q) := by unfold Hid ooOwn; rw [HNE.out]
                      have HDH0 : Hid ((ooHs kk cs l.length).set kk (ooOwn gr s l kk cs) = (ooHs kk cs k).set kk (ooOwn gr s l kk cs)) := by unfold Hid; rw [HNE.out]
                      have HDR0 : Hid ((ooRs kk cs l.length).set kk ((ooW l.length cs + ooOwn gr s l kk cs * x) % gr.q) = (ooRs kk cs k).set kk ((ow + ooOwn gr s l kk cs * x) % gr.q)) := by unfold Hid; rw [HOW.out, HNE.out]
                      obtain ⟨LC, hLC⟩ : ∃ L, ooCs gr l kk cs k = L := ⟨_, rfl⟩
                      obtain ⟨LH, hLH⟩ : ∃ L, ooHs kk cs k = L := ⟨_, rfl⟩
                      obtain ⟨LR, hLR⟩ : ∃ L, ooRs kk cs k = L := ⟨_, rfl⟩
                      obtain ⟨S, hS⟩ : ∃ S, sumM gr.q LH = S := ⟨_, rfl⟩
                      obtain ⟨E, hE⟩ : ∃ E, ooE gr s l LC = E := ⟨_, rfl⟩
                      obtain ⟨OWN, hOWN⟩ : ∃ E', (E - S) % gr.q = E' := ⟨_, rfl⟩
                      obtain ⟨RV, hRV⟩ : ∃ R, (ow + OWN * x) % gr.q = R := ⟨_, rfl⟩
                      rw [hLC, hLH, hLR] at HP
                      rw [hLC] at HLC HLCe HCSM
                      rw [hLH, hS] at HSB
                      rw [hLH] at HLH
                      rw [hLR] at HLR
                      rw [hLC, hE] at HEB
                      rw [hLC, hLH, hS, hE, hOWN] at HOD
                      rw [hLH, HOD.out] at HDH0
                      rw [hLR, HOD.out, hRV] at HDR0
                      have HDH : Hid ((ooHs kk cs l.length).set kk (ooOwn gr s l kk cs) = LH.set kk OWN) := by unfold Hid; rw [HOD.out]; exact HDH0.out
                      have HDR : Hid ((ooRs kk cs l.length).set kk ((ooW l.length cs + ooOwn gr s l kk cs * x) % gr.q) = LR.set kk RV) := by unfold Hid; rw [HOD.out]; exact HDR0.out
                      have HEE := Lib.hid hE
                      have HOWN := Lib.hid hOWN
                      obtain ⟨e1, e2⟩ := expB_bd HEB.out
                      obtain ⟨x1, x2⟩ := expB_bd HXE.out
                      obtain ⟨w1, w2⟩ := expB_bd HOE.out
                      obtain ⟨hs0, hs1⟩ := HSB.out
                      have o0 : 0 ≤ OWN := by rw [← hOWN]; exact Int.emod_nonneg _ hqz
                      have o1 : OWN < gr.q := by rw [← hOWN]; exact Int.emod_lt_of_pos _ zq0
                      have HOI : Hid (I64 OWN) := ⟨by omega, by omega⟩
                      have HES : Hid (I64 (E - S)) := ⟨by omega, by omega⟩
                      have ews : IntKind.i64.wrap (E - S) = E - S := IntWalk.i64_in _ (by omega)
                      obtain ⟨m1, m2⟩ := mul_boundX o0 (show OWN ≤ 2000000000 by omega) (show 0 ≤ x by omega) (show x ≤ 2000000000 by omega)
                      have ewm : IntKind.i64.wrap (OWN * x) = OWN * x := IntWalk.i64_in _ (by omega)
                      have ewa : IntKind.i64.wrap (ow + OWN * x) = ow + OWN * x := IntWalk.i64_in _ (by omega)
                      have r0 : 0 ≤ RV := by rw [← hRV]; exact Int.emod_nonneg _ hqz
                      have r1' : RV < gr.q := by rw [← hRV]; exact Int.emod_lt_of_pos _ zq0
                      have HRI : Hid (I64 RV) := ⟨by omega, by omega⟩
                      have HRV := Lib.hid hRV
                      have HSe := Lib.hid hS
                      have HRS : Hid (I64 (ow + OWN * x)) := ⟨by omega, by omega⟩
                      have HHB : Hid (∀ x ∈ LH, 0 ≤ x ∧ x < gr.q) := by unfold Hid; rw [← hLH]; exact exps_below (oo_exps HG.out HCA.out kk _).1
                      clear hLC hLH hLR hS hE hOWN hRV e1 e2 x1 x2 w1 w2 hs0 hs1 o0 o1 m1 m2 r0 r1' HDH0 HDR0
                      have c0_0 := HP.out.grp.cell (i := 0) rfl
                      have c0_1 := HP.out.grp.cell (i := 1) rfl
                      have c0_2 := HP.out.grp.cell (i := 2) rfl
                      have c1_0 := HP.out.prf.cell (i := 0) rfl
                      have c1_1 := HP.out.prf.cell (i := 1) rfl
                      have c1_2 := HP.out.prf.cell (i := 2) rfl
                      go_wp2_with fail
                      refine (impl_oneOfChallenge gr s _ l _ LC _ HG.out HS.out (Hev.out.below HP.out.bel) HP.out.ownC.ints (stB_len HL.out).2 (ooL_small HG.out (stB_all HL.out)) (by have := HLC.out; have := HN9.out; omega) HCSM.out).mono ?_
                      rintro ee w6 ⟨rfl, hb6⟩
                      rw [HEE.out]
                      have HPE := Lib.hid (HP.out.below hb6)
                      clear hb6 c0_0 c0_1 c0_2 c1_0 c1_1 c1_2
                      obtain ⟨ca_, cc_, rfl⟩ := HPE.out.ownC.shape
                      obtain ⟨ha_, hc_, rfl⟩ := HPE.out.ownH.shape
                      obtain ⟨ra_, rc, rfl⟩ := HPE.out.ownR.shape
                      obtain ⟨hg_, rfl, hgB, hgn, hgc⟩ := HPE.out.ownH.at_ (by have := HLH.out; have := HKK.out; have := HNE.out; omega)
                      obtain ⟨rg, rfl, rgB, rgn, rgc⟩ := HPE.out.ownR.at_ (by have := HLR.out; have := HKK.out; have := HNE.out; omega)
                      obtain ⟨cn_, hcn⟩ : ∃ n, LC.length = n := ⟨_, rfl⟩
                      rw [hcn] at HPE
                      (try rw [hcn])
                      obtain ⟨hn_, hhn⟩ : ∃ n, LH.length = n := ⟨_, rfl⟩
                      obtain ⟨rn, hrn⟩ : ∃ n, LR.length = n := ⟨_, rfl⟩
                      rw [hhn] at HPE
                      rw [hrn] at HPE
                      clear hgc rgc hgn rgn HP
                      have bk0 : (0 : Int) ≤ (kk : Int) := by omega
                      have bk1 : (kk : Int) < (hn_ : Int) := by have := HLH.out; have := HKK.out; have := HNE.out; omega
                      have bk2 : (kk : Int) < (rn : Int) := by have := HLR.out; have := HKK.out; have := HNE.out; omega
                      have c0_0 := HPE.out.grp.cell (i := 0) rfl
                      have c0_1 := HPE.out.grp.cell (i := 1) rfl
                      have c0_2 := HPE.out.grp.cell (i := 2) rfl
                      have c1_0 := HPE.out.prf.cell (i := 0) rfl
                      have c1_1 := HPE.out.prf.cell (i := 1) rfl
                      have c1_2 := HPE.out.prf.cell (i := 2) rfl
                      have hc : Below w6.heap.size w6 w6 := Below.refl _ _
                      go_wp2_with fail
                      try (go_wp2_with fail)
                      refine wp_region_noPanic ?_
                      refine wp_region_P (fun w' => w'.cell? ⟨w.heap.size, 0, none⟩ = some (.int .i64 gr.p) ∧ w'.cell? ⟨w.heap.size, 1, none⟩ = some (.int .i64 gr.q) ∧ w'.cell? ⟨w.heap.size, 2, none⟩ = some (.int .i64 gr.g) ∧ w'.cell? ⟨u1.heap.size, 0, none⟩ = some (.slice ca_ cn_ cc_) ∧ w'.cell? ⟨u1.heap.size, 1, none⟩ = some (.slice (some ⟨hg_, 0, none⟩) hn_ hc_) ∧ w'.cell? ⟨u1.heap.size, 2, none⟩ = some (.slice (some ⟨rg, 0, none⟩) rn rc)) 16 [(0, []), (1, [0]), (2, []), (3, []), (4, []), (5, []), (6, [0]), (7, []), (8, [0]), (9, [2, 0]), (10, [5, 0]), (11, [7, 0]), (12, [10, 9])] [13] (by kernel_rfl) (by kernel_rfl) (by kernel_rfl) rfl (fun _ _ _ _ h => h) (fun w' h => ⟨box_at c0_0 h, box_at c0_1 h, box_at c0_2 h, box_at c1_0 h, box_at c1_1 h, box_at c1_2 h⟩) ?_
                      simp only [pickP, pickN, List.getElem?_cons_zero, List.getElem?_cons_succ]
                      iterate 9 (refine' chainP_read _ rfl rfl (fun w' hS' => ?_) ?_; rotate_left; · (simp only [lookP, allP, Act.put, List.getElem?_cons_zero, List.getElem?_cons_succ, List.setIfInBounds_toArray, List.set_cons_zero, List.set_cons_succ]; (try dsimp only at hS'); go_simp; (try with_reducible rfl)))
                      -- 9: call { callee := value (func 104), args := #[t163, t165], argTypes := #[43, 3] }
                      refine chainP_call (d := (some 166)) (.int .i64 S) rfl rfl (fun w' hS' => ?_) ?_
                      · simp only [lookP, allP, Act.put, List.getElem?_cons_zero, List.getElem?_cons_succ, List.setIfInBounds_toArray, List.set_cons_zero, List.set_cons_succ]
                        intro K hK
                        go_simp
                        go_at_call 104
                        refine (impl_sum _ LH gr.q _ (HPE.out.ownH.ints.below hS'.1) zq0 zq3 HHB.out).mono ?_
                        rintro e u ⟨rfl, rfl⟩
                        rw [HSe.out]
                        exact hK.out _ (Below.refl _ _)
                      -- 10: binOp Binsub 3 t161 t166 3
                      refine' chainP_read (d := (some 167)) _ rfl rfl (fun w' hS' => ?_) ?_; rotate_left
                      · simp only [lookP, allP, Act.put, List.getElem?_cons_zero, List.getElem?_cons_succ, List.setIfInBounds_toArray, List.set_cons_zero, List.set_cons_succ]
                        (try dsimp only at hS')
                        go_simp
                        (try with_reducible rfl)
                      -- 11: call { callee := value (func 75), args := #[t160, t167], argTypes := #[24, 3] }
                      refine chainP_call (d := (some 168)) (.int .i64 OWN) rfl rfl (fun w' hS' => ?_) ?_
                      · simp only [lookP, allP, Act.put, List.getElem?_cons_zero, List.getElem?_cons_succ, List.setIfInBounds_toArray, List.set_cons_zero, List.set_cons_succ]
                        intro K hK
                        go_simp
                        go_at_call 75
                        refine (impl_exp gr (E - S) _ HG.out HES.out).mono ?_
                        rintro e u ⟨rfl, hq⟩
                        rw [HOWN.out]
                        exact hK.out _ hq
                      -- 12: indexAddr 43 t158 t159
                      refine' chainP_read (d := (some 169)) _ rfl rfl (fun w' hS' => ?_) ?_; rotate_left
                      · simp only [lookP, allP, Act.put, List.getElem?_cons_zero, List.getElem?_cons_succ, List.setIfInBounds_toArray, List.set_cons_zero, List.set_cons_succ]
                        (try dsimp only at hS')
                        go_simp
                        (try with_reducible rfl)
                      refine chainP_nil (fun ua hS' => ?_)
                      simp only [allP, Act.put, List.setIfInBounds_toArray, List.set_cons_zero, List.set_cons_succ]
                      have hq1 := hS'.1
                      clear hS'
                      replace hc := Below.next hc hq1
                      replace c0_0 := box_at c0_0 hq1
                      replace c0_1 := box_at c0_1 hq1
                      replace c0_2 := box_at c0_2 hq1
                      replace c1_0 := box_at c1_0 hq1
                      replace c1_1 := box_at c1_1 hq1
                      replace c1_2 := box_at c1_2 hq1
                      clear hq1
                      have HPE2 := Lib.hid (HPE.out.below hc)
                      clear hc c0_0 c0_1 c0_2 c1_0 c1_1 c1_2
                      obtain ⟨g2_, h1', h2', h3', hgc⟩ := HPE2.out.ownH.at_ (by have := HLH.out; have := HKK.out; have := HNE.out; omega)
                      cases h1'
                      obtain ⟨s1, s2⟩ := hgc kk (by have := HLH.out; have := HKK.out; have := HNE.out; omega)
                      go_wp2_with fail
                      refine NoPanic.normal ?_
                      obtain ⟨Y1, hY1⟩ : ∃ Y, Y = ua.setCell ⟨hg_, kk, none⟩ (.int .i64 OWN) := ⟨_, rfl⟩
                      (try rw [← hY1])
                      have HPF : Hid (PSt w Y1 w.heap.size (w.heap.size + 1) u1.heap.size V0.heap.size gr (.slice ca_ cn_ cc_) (.slice (some ⟨hg_, 0, none⟩) hn_ hc_) (.slice (some ⟨rg, 0, none⟩) rn rc) LC (LH.set kk OWN) LR) := by unfold Hid; rw [hY1]; exact HPE2.out.store1 hhn kk HOI.out
                      clear hY1 s1 s2 hgc h2' h3'
                      obtain ⟨g2_, h1', h2', h3', hgc⟩ := HPF.out.ownH.at_ (by rw [List.length_set]; have := HLH.out; have := HKK.out; have := HNE.out; omega)
                      cases h1'
                      have y_o := (hgc kk (by have := HLH.out; have := HKK.out; have := HNE.out; omega)).1
                      rw [nth_setO (by have := HLH.out; have := HKK.out; have := HNE.out; omega), if_pos rfl] at y_o
                      clear hgc h2' h3'
                      have c0_0 := HPF.out.grp.cell (i := 0) rfl
                      have c0_1 := HPF.out.grp.cell (i := 1) rfl
                      have c0_2 := HPF.out.grp.cell (i := 2) rfl
                      have c1_0 := HPF.out.prf.cell (i := 0) rfl
                      have c1_1 := HPF.out.prf.cell (i := 1) rfl
                      have c1_2 := HPF.out.prf.cell (i := 2) rfl
                      have hc : Below Y1.heap.size Y1 Y1 := Below.refl _ _
                      try (go_wp2_with fail)
                      refine wp_region_noPanic ?_
                      refine wp_region_P (fun w' => w'.cell? ⟨w.heap.size, 0, none⟩ = some (.int .i64 gr.p) ∧ w'.cell? ⟨w.heap.size, 1, none⟩ = some (.int .i64 gr.q) ∧ w'.cell? ⟨w.heap.size, 2, none⟩ = some (.int .i64 gr.g) ∧ w'.cell? ⟨u1.heap.size, 0, none⟩ = some (.slice ca_ cn_ cc_) ∧ w'.cell? ⟨u1.heap.size, 1, none⟩ = some (.slice (some ⟨hg_, 0, none⟩) hn_ hc_) ∧ w'.cell? ⟨u1.heap.size, 2, none⟩ = some (.slice (some ⟨rg, 0, none⟩) rn rc) ∧ w'.cell? ⟨hg_, kk, none⟩ = some (.int .i64 OWN)) 18 [(0, []), (1, [0]), (2, []), (3, []), (4, []), (5, []), (6, [0]), (7, []), (8, [1, 0]), (9, [0]), (10, []), (11, [1, 0]), (12, [7, 0]), (13, [9, 0]), (14, [12, 11])] [15] (by kernel_rfl) (by kernel_rfl) (by kernel_rfl) rfl (fun _ _ _ _ h => h) (fun w' h => ⟨box_at c0_0 h, box_at c0_1 h, box_at c0_2 h, box_at c1_0 h, box_at c1_1 h, box_at c1_2 h, box_at y_o h⟩) ?_
                      simp only [pickP, pickN, List.getElem?_cons_zero, List.getElem?_cons_succ]
                      iterate 13 (refine' chainP_read _ rfl rfl (fun w' hS' => ?_) ?_; rotate_left; · (simp only [lookP, allP, Act.put, List.getElem?_cons_zero, List.getElem?_cons_succ, List.setIfInBounds_toArray, List.set_cons_zero, List.set_cons_succ]; (try dsimp only at hS'); go_simp; (try with_reducible rfl)))
                      -- 13: call { callee := value (func 75), args := #[t173, t182], argTypes := #[24, 3] }
                      refine chainP_call (d := (some 183)) (.int .i64 RV) rfl rfl (fun w' hS' => ?_) ?_
                      · simp only [lookP, allP, Act.put, List.getElem?_cons_zero, List.getElem?_cons_succ, List.setIfInBounds_toArray, List.set_cons_zero, List.set_cons_succ]
                        intro K hK
                        go_simp
                        go_at_call 75
                        refine (impl_exp gr (ow + (OWN * x)) _ HG.out HRS.out).mono ?_
                        rintro e u ⟨rfl, hq⟩
                        rw [HRV.out]
                        exact hK.out _ hq
                      -- 14: indexAddr 43 t171 t172
                      refine' chainP_read (d := (some 184)) _ rfl rfl (fun w' hS' => ?_) ?_; rotate_left
                      · simp only [lookP, allP, Act.put, List.getElem?_cons_zero, List.getElem?_cons_succ, List.setIfInBounds_toArray, List.set_cons_zero, List.set_cons_succ]
                        (try dsimp only at hS')
                        go_simp
                        (try with_reducible rfl)
                      refine chainP_nil (fun ud hS' => ?_)
                      simp only [allP, Act.put, List.setIfInBounds_toArray, List.set_cons_zero, List.set_cons_succ]
                      have hq1 := hS'.1
                      clear hS'
                      replace hc := Below.next hc hq1
                      replace c0_0 := box_at c0_0 hq1
                      replace c0_1 := box_at c0_1 hq1
                      replace c0_2 := box_at c0_2 hq1
                      replace c1_0 := box_at c1_0 hq1
                      replace c1_1 := box_at c1_1 hq1
                      replace c1_2 := box_at c1_2 hq1
                      replace y_o := box_at y_o hq1
                      clear hq1
                      have HPG := Lib.hid (HPF.out.below hc)
                      clear hc c0_0 c0_1 c0_2 c1_0 c1_1 c1_2 y_o
                      obtain ⟨ra2, h1', h2', h3', hgc⟩ := HPG.out.ownR.at_ (by have := HLR.out; have := HKK.out; have := HNE.out; omega)
                      cases h1'
                      obtain ⟨s1, s2⟩ := hgc kk (by have := HLR.out; have := HKK.out; have := HNE.out; omega)
                      go_wp2_with fail
                      refine NoPanic.normal ?_
                      obtain ⟨Y2, hY2⟩ : ∃ Y, Y = ud.setCell ⟨rg, kk, none⟩ (.int .i64 RV) := ⟨_, rfl⟩
                      (try rw [← hY2])
                      have HPH : Hid (PSt w Y2 w.heap.size (w.heap.size + 1) u1.heap.size V0.heap.size gr (.slice ca_ cn_ cc_) (.slice (some ⟨hg_, 0, none⟩) hn_ hc_) (.slice (some ⟨rg, 0, none⟩) rn rc) LC (LH.set kk OWN) (LR.set kk RV)) := by unfold Hid; rw [hY2]; exact HPG.out.store2 hrn kk HRI.out
                      clear hY2 s1 s2 hgc
                      have q0 := HPH.out.prf.cell (i := 0) rfl
                      have q1 := HPH.out.prf.cell (i := 1) rfl
                      have q2 := HPH.out.prf.cell (i := 2) rfl
                      have r0 := HPH.out.res.cell (i := 0) rfl
                      have r1_ := HPH.out.res.cell (i := 1) rfl
                      have r2 := HPH.out.res.cell (i := 2) rfl
                      have fr := fun j => HPH.out.res.frozen j
                      go_wp2_with fail
                      have HF := HPH.out.final
                      have f0 := HF.cell (i := 0) rfl
                      have f1 := HF.cell (i := 1) rfl
                      have f2 := HF.cell (i := 2) rfl
                      try (go_wp2_with fail)
                      refine bodyPost_ret (v := .tuple #[.agg #[.slice ca_ cn_ cc_, .slice (some ⟨hg_, 0, none⟩) hn_ hc_, .slice (some ⟨rg, 0, none⟩) rn rc], .bool true]) (by simp [results, Try.results20, go_sem, f0, f1, f2]) rfl ?_
                      refine ⟨?_, HPH.out.outB (by omega)⟩
                      rw [HVB.out, HPR.out, Int.toNat_natCast]
                      exact RetP.mk (by unfold ooD; rw [HLCe.out]; exact HPH.out.out HPH.out.ownC) (by unfold ooD; simp only; rw [HDH.out]; exact HPH.out.out HPH.out.ownH) (by unfold ooD; simp only; rw [HDR.out]; exact HPH.out.out HPH.out.ownR)
            | true =>
              have HLNd : Hid (decide ((cs.length : Int) = 2 * (l.length : Int) - 1) = false) := by have q := hc6; rw [bne_iff_ne] at q; exact decide_eq_false (by have := Eev.out; have := Ecv.out; omega)
              try (go_wp2_with fail)
              refine wp_region_noPanic ?_
              refine wp_region_P (fun w' => w'.cell? ⟨w.heap.size, 0, none⟩ = some (.int .i64 gr.p) ∧ w'.cell? ⟨w.heap.size, 1, none⟩ = some (.int .i64 gr.q) ∧ w'.cell? ⟨w.heap.size, 2, none⟩ = some (.int .i64 gr.g) ∧ w'.cell? ⟨b_z, o_z + k.toNat * 4, none⟩ = some (.int .i64 z.g1) ∧ w'.cell? ⟨b_z, o_z + k.toNat * 4 + 1, none⟩ = some (.int .i64 z.y1) ∧ w'.cell? ⟨b_z, o_z + k.toNat * 4 + 2, none⟩ = some (.int .i64 z.g2) ∧ w'.cell? ⟨b_z, o_z + k.toNat * 4 + 3, none⟩ = some (.int .i64 z.y2)) 55 [(0, []), (1, [0]), (2, [0]), (3, [0]), (4, [0]), (5, [0, 1]), (6, [0, 2]), (7, [3, 0]), (8, [0]), (9, [0]), (10, [1]), (11, [1, 0, 2]), (12, [0, 3]), (13, [4, 0]), (14, [0]), (15, [0]), (16, [1]), (17, [0, 2]), (18, [0, 3]), (19, [3, 0, 4]), (20, [0, 5]), (21, [6, 0]), (22, [0]), (23, [0]), (24, [1]), (25, [1, 0, 2]), (26, [0, 3]), (27, [4, 0]), (28, [0]), (29, [0]), (30, [0, 1]), (31, [2]), (32, [0, 3]), (33, [0, 4]), (34, [0, 5]), (35, [4, 0, 6]), (36, [7, 0]), (37, [0]), (38, [0]), (39, [1]), (40, [1, 0, 2]), (41, [0, 3]), (42, [4, 0]), (43, [0]), (44, [0]), (45, [1]), (46, [2]), (47, [1, 0, 3]), (48, [0, 4]), (49, [5]), (50, [5, 1, 0, 6]), (51, [0, 7]), (52, [8, 0])] [] (by kernel_rfl) (by kernel_rfl) (by kernel_rfl) rfl (fun _ _ _ _ h => h) (fun w' h => ⟨box_at c0_0 h, box_at c0_1 h, box_at c0_2 h, box_at yz_0 h, box_at yz_1 h, box_at yz_2 h, box_at yz_3 h⟩) ?_
              simp only [pickP, pickN, List.getElem?_cons_zero, List.getElem?_cons_succ]
              -- 0: load 24 t6
              refine' chainP_read (d := (some 25)) _ rfl rfl (fun w' hS' => ?_) ?_; rotate_left
              · simp only [lookP, allP, Act.put, List.getElem?_cons_zero, List.getElem?_cons_succ, List.setIfInBounds_toArray, List.set_cons_zero, List.set_cons_succ]
                (try dsimp only at hS')
                go_simp
                (try with_reducible rfl)
              -- 1: call { callee := value (func 90), args := #[t25], argTypes := #[24] }
              refine chainP_call (d := (some 26)) (.bool true) rfl rfl (fun w' hS' => ?_) ?_
              · simp only [lookP, allP, Act.put, List.getElem?_cons_zero, List.getElem?_cons_succ, List.setIfInBounds_toArray, List.set_cons_zero, List.set_cons_succ]
                intro K hK
                go_simp
                go_at_call 90
                refine (impl_IsValidGroup gr _).mono ?_
                rintro e u ⟨rfl, hq⟩
                rw [Hhc1.out]
                exact hK.out _ hq
              iterate 2 (refine' chainP_read _ rfl rfl (fun w' hS' => ?_) ?_; rotate_left; · (simp only [lookP, allP, Act.put, List.getElem?_cons_zero, List.getElem?_cons_succ, List.setIfInBounds_toArray, List.set_cons_zero, List.set_cons_succ]; (try dsimp only at hS'); go_simp; (try with_reducible rfl)))
              -- 4: move t1
              refine' chainP_readG (d := (some 29)) _ rfl (fun w' hS' => ?_) ?_; rotate_left
              · simp only [lookP, allP, Act.put, List.getElem?_cons_zero, List.getElem?_cons_succ, List.setIfInBounds_toArray, List.set_cons_zero, List.set_cons_succ]
                refine ⟨by kernel_rfl, ?_⟩
                (try dsimp only at hS')
                go_simp
                (try with_reducible rfl)
              -- 5: call { callee := value (func 99), args := #[t29], argTypes := #[9] }
              refine chainP_callG (d := (some 30)) (.bool true) rfl (fun w' hS' => ?_) ?_
              · simp only [lookP, allP, Act.put, List.getElem?_cons_zero, List.getElem?_cons_succ, List.setIfInBounds_toArray, List.set_cons_zero, List.set_cons_succ]
                refine ⟨by kernel_rfl, ?_⟩
                intro K hK
                go_simp
                go_at_call 99
                refine (impl_isLabel s _ HS3.out).mono ?_
                rintro e u ⟨rfl, rfl⟩
                rw [hc2]
                exact hK.out _ (Below.refl _ _)
              -- 6: unOp Unnot 4 t30
              refine' chainP_readG (d := (some 31)) _ rfl (fun w' hS' => ?_) ?_; rotate_left
              · simp only [lookP, allP, Act.put, List.getElem?_cons_zero, List.getElem?_cons_succ, List.setIfInBounds_toArray, List.set_cons_zero, List.set_cons_succ]
                refine ⟨by kernel_rfl, ?_⟩
                (try dsimp only at hS')
                go_simp
                (try with_reducible rfl)
              iterate 2 (refine' chainP_read _ rfl rfl (fun w' hS' => ?_) ?_; rotate_left; · (simp only [lookP, allP, Act.put, List.getElem?_cons_zero, List.getElem?_cons_succ, List.setIfInBounds_toArray, List.set_cons_zero, List.set_cons_succ]; (try dsimp only at hS'); go_simp; (try with_reducible rfl)))
              -- 9: load 24 t6
              refine' chainP_readG (d := (some 34)) _ rfl (fun w' hS' => ?_) ?_; rotate_left
              · simp only [lookP, allP, Act.put, List.getElem?_cons_zero, List.getElem?_cons_succ, List.setIfInBounds_toArray, List.set_cons_zero, List.set_cons_succ]
                refine ⟨by kernel_rfl, ?_⟩
                (try dsimp only at hS')
                go_simp
                (try with_reducible rfl)
              -- 10: move t2
              refine' chainP_readG (d := (some 35)) _ rfl (fun w' hS' => ?_) ?_; rotate_left
              · simp only [lookP, allP, Act.put, List.getElem?_cons_zero, List.getElem?_cons_succ, List.setIfInBounds_toArray, List.set_cons_zero, List.set_cons_succ]
                refine ⟨by kernel_rfl, ?_⟩
                (try dsimp only at hS')
                go_simp
                (try with_reducible rfl)
              -- 11: call { callee := value (func 100), args := #[t34, t35], argTypes := #[24, 42] }
              refine chainP_callG (d := (some 36)) (.bool true) rfl (fun w' hS' => ?_) ?_
              · simp only [lookP, allP, Act.put, List.getElem?_cons_zero, List.getElem?_cons_succ, List.setIfInBounds_toArray, List.set_cons_zero, List.set_cons_succ]
                refine ⟨by kernel_rfl, ?_⟩
                intro K hK
                go_simp
                go_at_call 100
                refine (impl_areStatements gr _ l _ HG.out ((Hev.out.below (HB.out.trans (hc.mono HB.out.size))).below hS'.1)).mono ?_
                rintro e u ⟨rfl, hq⟩
                rw [Hhc3.out]
                exact hK.out _ hq
              -- 12: unOp Unnot 4 t36
              refine' chainP_readG (d := (some 37)) _ rfl (fun w' hS' => ?_) ?_; rotate_left
              · simp only [lookP, allP, Act.put, List.getElem?_cons_zero, List.getElem?_cons_succ, List.setIfInBounds_toArray, List.set_cons_zero, List.set_cons_succ]
                refine ⟨by kernel_rfl, ?_⟩
                (try dsimp only at hS')
                go_simp
                (try with_reducible rfl)
              iterate 2 (refine' chainP_read _ rfl rfl (fun w' hS' => ?_) ?_; rotate_left; · (simp only [lookP, allP, Act.put, List.getElem?_cons_zero, List.getElem?_cons_succ, List.setIfInBounds_toArray, List.set_cons_zero, List.set_cons_succ]; (try dsimp only at hS'); go_simp; (try with_reducible rfl)))
              -- 15: move t3
              refine' chainP_readG (d := (some 40)) _ rfl (fun w' hS' => ?_) ?_; rotate_left
              · simp only [lookP, allP, Act.put, List.getElem?_cons_zero, List.getElem?_cons_succ, List.setIfInBounds_toArray, List.set_cons_zero, List.set_cons_succ]
                refine ⟨by kernel_rfl, ?_⟩
                (try dsimp only at hS')
                go_simp
                (try with_reducible rfl)
              -- 16: move t2
              refine' chainP_readG (d := (some 41)) _ rfl (fun w' hS' => ?_) ?_; rotate_left
              · simp only [lookP, allP, Act.put, List.getElem?_cons_zero, List.getElem?_cons_succ, List.setIfInBounds_toArray, List.set_cons_zero, List.set_cons_succ]
                refine ⟨by kernel_rfl, ?_⟩
                (try dsimp only at hS')
                go_simp
                (try with_reducible rfl)
              -- 17: call { callee := builtin Builtin.len, args := #[t41], argTypes := #[42] }
              refine' chainP_readG (d := (some 42)) _ rfl (fun w' hS' => ?_) ?_; rotate_left
              · simp only [lookP, allP, Act.put, List.getElem?_cons_zero, List.getElem?_cons_succ, List.setIfInBounds_toArray, List.set_cons_zero, List.set_cons_succ]
                refine ⟨by kernel_rfl, ?_⟩
                (try dsimp only at hS')
                go_simp
                (try with_reducible rfl)
              -- 18: binOp Binsub 3 t42 (const (int i64 1)) 3
              refine' chainP_readG (d := (some 43)) _ rfl (fun w' hS' => ?_) ?_; rotate_left
              · simp only [lookP, allP, Act.put, List.getElem?_cons_zero, List.getElem?_cons_succ, List.setIfInBounds_toArray, List.set_cons_zero, List.set_cons_succ]
                refine ⟨by kernel_rfl, ?_⟩
                (try dsimp only at hS')
                go_simp
                (try with_reducible rfl)
              -- 19: call { callee := value (func 101), args := #[t40, const (int i64 0), t43], argTypes := #[3, 3, 3] }
              refine chainP_callG (d := (some 44)) (.bool true) rfl (fun w' hS' => ?_) ?_
              · simp only [lookP, allP, Act.put, List.getElem?_cons_zero, List.getElem?_cons_succ, List.setIfInBounds_toArray, List.set_cons_zero, List.set_cons_succ]
                refine ⟨by kernel_rfl, ?_⟩
                intro K hK
                go_simp
                go_at_call 101
                refine (impl_within k 0 ((evn : Int) - 1) _).mono ?_
                rintro e u ⟨rfl, rfl⟩
                rw [hc4]
                exact hK.out _ (Below.refl _ _)
              -- 20: unOp Unnot 4 t44
              refine' chainP_readG (d := (some 45)) _ rfl (fun w' hS' => ?_) ?_; rotate_left
              · simp only [lookP, allP, Act.put, List.getElem?_cons_zero, List.getElem?_cons_succ, List.setIfInBounds_toArray, List.set_cons_zero, List.set_cons_succ]
                refine ⟨by kernel_rfl, ?_⟩
                (try dsimp only at hS')
                go_simp
                (try with_reducible rfl)
              iterate 2 (refine' chainP_read _ rfl rfl (fun w' hS' => ?_) ?_; rotate_left; · (simp only [lookP, allP, Act.put, List.getElem?_cons_zero, List.getElem?_cons_succ, List.setIfInBounds_toArray, List.set_cons_zero, List.set_cons_succ]; (try dsimp only at hS'); go_simp; (try with_reducible rfl)))
              -- 23: load 24 t6
              refine' chainP_readG (d := (some 48)) _ rfl (fun w' hS' => ?_) ?_; rotate_left
              · simp only [lookP, allP, Act.put, List.getElem?_cons_zero, List.getElem?_cons_succ, List.setIfInBounds_toArray, List.set_cons_zero, List.set_cons_succ]
                refine ⟨by kernel_rfl, ?_⟩
                (try dsimp only at hS')
                go_simp
                (try with_reducible rfl)
              -- 24: move t4
              refine' chainP_readG (d := (some 49)) _ rfl (fun w' hS' => ?_) ?_; rotate_left
              · simp only [lookP, allP, Act.put, List.getElem?_cons_zero, List.getElem?_cons_succ, List.setIfInBounds_toArray, List.set_cons_zero, List.set_cons_succ]
                refine ⟨by kernel_rfl, ?_⟩
                (try dsimp only at hS')
                go_simp
                (try with_reducible rfl)
              -- 25: call { callee := value (func 71), args := #[t48, t49], argTypes := #[24, 3] }
              refine chainP_callG (d := (some 50)) (.bool true) rfl (fun w' hS' => ?_) ?_
              · simp only [lookP, allP, Act.put, List.getElem?_cons_zero, List.getElem?_cons_succ, List.setIfInBounds_toArray, List.set_cons_zero, List.set_cons_succ]
                refine ⟨by kernel_rfl, ?_⟩
                intro K hK
                go_simp
                go_at_call 71
                refine (impl_isExp gr x _ HG.out).mono ?_
                rintro e u ⟨rfl, hq⟩
                rw [Hhc5.out]
                exact hK.out _ hq
              -- 26: unOp Unnot 4 t50
              refine' chainP_readG (d := (some 51)) _ rfl (fun w' hS' => ?_) ?_; rotate_left
              · simp only [lookP, allP, Act.put, List.getElem?_cons_zero, List.getElem?_cons_succ, List.setIfInBounds_toArray, List.set_cons_zero, List.set_cons_succ]
                refine ⟨by kernel_rfl, ?_⟩
                (try dsimp only at hS')
                go_simp
                (try with_reducible rfl)
              iterate 2 (refine' chainP_read _ rfl rfl (fun w' hS' => ?_) ?_; rotate_left; · (simp only [lookP, allP, Act.put, List.getElem?_cons_zero, List.getElem?_cons_succ, List.setIfInBounds_toArray, List.set_cons_zero, List.set_cons_succ]; (try dsimp only at hS'); go_simp; (try with_reducible rfl)))
              -- 29: move t5
              refine' chainP_readG (d := (some 54)) _ rfl (fun w' hS' => ?_) ?_; rotate_left
              · simp only [lookP, allP, Act.put, List.getElem?_cons_zero, List.getElem?_cons_succ, List.setIfInBounds_toArray, List.set_cons_zero, List.set_cons_succ]
                refine ⟨by kernel_rfl, ?_⟩
                (try dsimp only at hS')
                go_simp
                (try with_reducible rfl)
              -- 30: call { callee := builtin Builtin.len, args := #[t54], argTypes := #[43] }
              refine' chainP_readG (d := (some 55)) _ rfl (fun w' hS' => ?_) ?_; rotate_left
              · simp only [lookP, allP, Act.put, List.getElem?_cons_zero, List.getElem?_cons_succ, List.setIfInBounds_toArray, List.set_cons_zero, List.set_cons_succ]
                refine ⟨by kernel_rfl, ?_⟩
                (try dsimp only at hS')
                go_simp
                (try with_reducible rfl)
              -- 31: move t2
              refine' chainP_readG (d := (some 56)) _ rfl (fun w' hS' => ?_) ?_; rotate_left
              · simp only [lookP, allP, Act.put, List.getElem?_cons_zero, List.getElem?_cons_succ, List.setIfInBounds_toArray, List.set_cons_zero, List.set_cons_succ]
                refine ⟨by kernel_rfl, ?_⟩
                (try dsimp only at hS')
                go_simp
                (try with_reducible rfl)
              -- 32: call { callee := builtin Builtin.len, args := #[t56], argTypes := #[42] }
              refine' chainP_readG (d := (some 57)) _ rfl (fun w' hS' => ?_) ?_; rotate_left
              · simp only [lookP, allP, Act.put, List.getElem?_cons_zero, List.getElem?_cons_succ, List.setIfInBounds_toArray, List.set_cons_zero, List.set_cons_succ]
                refine ⟨by kernel_rfl, ?_⟩
                (try dsimp only at hS')
                go_simp
                (try with_reducible rfl)
              -- 33: binOp Binmul 3 (const (int i64 2)) t57 3
              refine' chainP_readG (d := (some 58)) _ rfl (fun w' hS' => ?_) ?_; rotate_left
              · simp only [lookP, allP, Act.put, List.getElem?_cons_zero, List.getElem?_cons_succ, List.setIfInBounds_toArray, List.set_cons_zero, List.set_cons_succ]
                refine ⟨by kernel_rfl, ?_⟩
                (try dsimp only at hS')
                go_simp
                (try with_reducible rfl)
              -- 34: binOp Binsub 3 t58 (const (int i64 1)) 3
              refine' chainP_readG (d := (some 59)) _ rfl (fun w' hS' => ?_) ?_; rotate_left
              · simp only [lookP, allP, Act.put, List.getElem?_cons_zero, List.getElem?_cons_succ, List.setIfInBounds_toArray, List.set_cons_zero, List.set_cons_succ]
                refine ⟨by kernel_rfl, ?_⟩
                (try dsimp only at hS')
                go_simp
                (try with_reducible rfl)
              -- 35: binOp Binneq 3 t55 t59 3
              refine' chainP_readG (d := (some 60)) _ rfl (fun w' hS' => ?_) ?_; rotate_left
              · simp only [lookP, allP, Act.put, List.getElem?_cons_zero, List.getElem?_cons_succ, List.setIfInBounds_toArray, List.set_cons_zero, List.set_cons_succ]
                refine ⟨by kernel_rfl, ?_⟩
                (try dsimp only at hS')
                go_simp
                (try with_reducible rfl)
              iterate 2 (refine' chainP_read _ rfl rfl (fun w' hS' => ?_) ?_; rotate_left; · (simp only [lookP, allP, Act.put, List.getElem?_cons_zero, List.getElem?_cons_succ, List.setIfInBounds_toArray, List.set_cons_zero, List.set_cons_succ]; (try dsimp only at hS'); go_simp; (try with_reducible rfl)))
              -- 38: load 24 t6
              refine chainP_skip (d := (some 63)) rfl (fun w' hS' => ?_) ?_
              · simp only [lookP, allP, Act.put, List.getElem?_cons_zero, List.getElem?_cons_succ, List.setIfInBounds_toArray, List.set_cons_zero, List.set_cons_succ]
                kernel_rfl
              -- 39: move t5
              refine chainP_skip (d := (some 64)) rfl (fun w' hS' => ?_) ?_
              · simp only [lookP, allP, Act.put, List.getElem?_cons_zero, List.getElem?_cons_succ, List.setIfInBounds_toArray, List.set_cons_zero, List.set_cons_succ]
                kernel_rfl
              -- 40: call { callee := value (func 102), args := #[t63, t64], argTypes := #[24, 43] }
              refine chainP_skip (d := (some 65)) rfl (fun w' hS' => ?_) ?_
              · simp only [lookP, allP, Act.put, List.getElem?_cons_zero, List.getElem?_cons_succ, List.setIfInBounds_toArray, List.set_cons_zero, List.set_cons_succ]
                kernel_rfl
              -- 41: unOp Unnot 4 t65
              refine chainP_skip (d := (some 66)) rfl (fun w' hS' => ?_) ?_
              · simp only [lookP, allP, Act.put, List.getElem?_cons_zero, List.getElem?_cons_succ, List.setIfInBounds_toArray, List.set_cons_zero, List.set_cons_succ]
                kernel_rfl
              iterate 2 (refine' chainP_read _ rfl rfl (fun w' hS' => ?_) ?_; rotate_left; · (simp only [lookP, allP, Act.put, List.getElem?_cons_zero, List.getElem?_cons_succ, List.setIfInBounds_toArray, List.set_cons_zero, List.set_cons_succ]; (try dsimp only at hS'); go_simp; (try with_reducible rfl)))
              -- 44: load 24 t6
              refine chainP_skip (d := (some 69)) rfl (fun w' hS' => ?_) ?_
              · simp only [lookP, allP, Act.put, List.getElem?_cons_zero, List.getElem?_cons_succ, List.setIfInBounds_toArray, List.set_cons_zero, List.set_cons_succ]
                kernel_rfl
              -- 45: move t2
              refine chainP_skip (d := (some 70)) rfl (fun w' hS' => ?_) ?_
              · simp only [lookP, allP, Act.put, List.getElem?_cons_zero, List.getElem?_cons_succ, List.setIfInBounds_toArray, List.set_cons_zero, List.set_cons_succ]
                kernel_rfl
              -- 46: move t3
              refine chainP_skip (d := (some 71)) rfl (fun w' hS' => ?_) ?_
              · simp only [lookP, allP, Act.put, List.getElem?_cons_zero, List.getElem?_cons_succ, List.setIfInBounds_toArray, List.set_cons_zero, List.set_cons_succ]
                kernel_rfl
              -- 47: indexAddr 42 t70 t71
              refine chainP_skip (d := (some 72)) rfl (fun w' hS' => ?_) ?_
              · simp only [lookP, allP, Act.put, List.getElem?_cons_zero, List.getElem?_cons_succ, List.setIfInBounds_toArray, List.set_cons_zero, List.set_cons_succ]
                kernel_rfl
              -- 48: load 31 t72
              refine chainP_skip (d := (some 73)) rfl (fun w' hS' => ?_) ?_
              · simp only [lookP, allP, Act.put, List.getElem?_cons_zero, List.getElem?_cons_succ, List.setIfInBounds_toArray, List.set_cons_zero, List.set_cons_succ]
                kernel_rfl
              -- 49: move t4
              refine chainP_skip (d := (some 74)) rfl (fun w' hS' => ?_) ?_
              · simp only [lookP, allP, Act.put, List.getElem?_cons_zero, List.getElem?_cons_succ, List.setIfInBounds_toArray, List.set_cons_zero, List.set_cons_succ]
                kernel_rfl
              -- 50: call { callee := value (func 91), args := #[t69, t73, t74], argTypes := #[24, 31, 3] }
              refine chainP_skip (d := (some 75)) rfl (fun w' hS' => ?_) ?_
              · simp only [lookP, allP, Act.put, List.getElem?_cons_zero, List.getElem?_cons_succ, List.setIfInBounds_toArray, List.set_cons_zero, List.set_cons_succ]
                kernel_rfl
              -- 51: unOp Unnot 4 t75
              refine chainP_skip (d := (some 76)) rfl (fun w' hS' => ?_) ?_
              · simp only [lookP, allP, Act.put, List.getElem?_cons_zero, List.getElem?_cons_succ, List.setIfInBounds_toArray, List.set_cons_zero, List.set_cons_succ]
                kernel_rfl
              -- 52: pick t68 (const (bool true)) t76
              refine' chainP_read (d := (some 77)) _ rfl rfl (fun w' hS' => ?_) ?_; rotate_left
              · simp only [lookP, allP, Act.put, List.getElem?_cons_zero, List.getElem?_cons_succ, List.setIfInBounds_toArray, List.set_cons_zero, List.set_cons_succ]
                (try dsimp only at hS')
                go_simp
                (try with_reducible rfl)
              refine chainP_nil (fun u1 hS' => ?_)
              simp only [allP, Act.put, List.setIfInBounds_toArray, List.set_cons_zero, List.set_cons_succ]
              have hq1 := hS'.1
              clear hS'
              replace hc := Below.next hc hq1
              clear hq1 c0_0 c0_1 c0_2 yz_0 yz_1 yz_2 yz_3
              obtain ⟨c0_0, c0_1, c0_2, yz_0, yz_1, yz_2, yz_3⟩ := HCC.out _ hc
              go_wp2_with fail
              refine NoPanic.normal ?_
              have HRE1 := Lib.hid (HR1.out.below hc)
              clear HR1
              have HBE := Lib.hid (HB.out.trans (hc.mono HB.out.size))
              have r1_0 := HRE1.out.cell (i := 0) rfl
              have r1_1 := HRE1.out.cell (i := 1) rfl
              have r1_2 := HRE1.out.cell (i := 2) rfl
              have fr1 := fun j => HRE1.out.frozen j
              go_wp2_with fail
              have HRF := Lib.hid (((HRE1.out.set 0 ((.slice none 0 0))).set 1 ((.slice none 0 0))).set 2 ((.slice none 0 0)))
              have HBF := Lib.hid (((HBE.out.setCell (p := ⟨w.heap.size + 1, 0, none⟩) (by show w.heap.size ≤ w.heap.size + 1; omega) ((.slice none 0 0))).setCell (p := ⟨w.heap.size + 1, 1, none⟩) (by show w.heap.size ≤ w.heap.size + 1; omega) ((.slice none 0 0))).setCell (p := ⟨w.heap.size + 1, 2, none⟩) (by show w.heap.size ≤ w.heap.size + 1; omega) ((.slice none 0 0)))
              clear r1_0 r1_1 r1_2 fr1
              have r1_0 := HRF.out.cell (i := 0) rfl
              have r1_1 := HRF.out.cell (i := 1) rfl
              have r1_2 := HRF.out.cell (i := 2) rfl
              try (go_wp2_with fail)
              have HVB : Hid (ooB gr s l k x cs = false) := by unfold Hid; simp [ooB, Hhc1.out, hc2, Hhc3.out, Hhc5.out, HK3d.out, HLNd.out]
              have HPR : Hid (ooF gr s l k x cs = ⟨[], [], []⟩) := by unfold Hid ooF; rw [if_neg (by rw [HVB.out]; simp)]
              refine bodyPost_ret (v := .tuple #[.agg #[(.slice none 0 0), (.slice none 0 0), (.slice none 0 0)], .bool false]) (by simp [results, Try.results20, go_sem, r1_0, r1_1, r1_2]) rfl ⟨(by rw [HVB.out, HPR.out]; exact RetP.mk (OwnI.nil _ _) (OwnI.nil _ _) (OwnI.nil _ _)), HBF.out⟩
end Go.Proofs.Ytegomgnlhcbmfaa

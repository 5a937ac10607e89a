/- Ciphertexts: decryption, products: walks (printed by gen_cip6.py). -/
import Derived.Test.YtboahnklilmdpaaPow2W
import Derived.Test.YtboahnklilmdpaaRegVW
import Derived.Test.YtboahnklilmdpaaBgW
import Derived.Test.YtboahnklilmdpaaBaW
namespace Go.Proofs.Ytboahnklilmdpaa
open Go.RowKit
set_option linter.unusedSimpArgs false
set_option linter.unusedVariables false

def deC (gr : GroupD) (s : Int) (c : CipherD) : Int := mulL gr [c.b, powE gr (powE gr c.a s) (-1)]
theorem deC_small {gr : GroupD} (hg : OkG gr) (s : Int) (c : CipherD) : Small (deC gr s c) := mulL_small hg _
set_option maxRecDepth 100000 in
set_option maxHeartbeats 2000000 in
theorem impl_inv (gr : GroupD) (x : Int) (w : World) (hg : OkG gr) (hx : Small x) :
    Calls Try.prog 224 #[.agg #[.int .i64 gr.p, .int .i64 gr.q, .int .i64 gr.g], .int .i64 x] w fun e w' => e = .returned (.int .i64 (powE gr x (-1))) ∧ Below w.heap.size w w' := by
  have HG := Lib.hid hg
  clear hg
  obtain ⟨W, hW⟩ : ∃ W, W = w.alloc (.cells #[.int .i64 gr.p, .int .i64 gr.q, .int .i64 gr.g] 39) := ⟨_, rfl⟩
  have HB : Hid (Below w.heap.size w W) := by unfold Hid; rw [hW]; (repeat (first | exact Below.refl _ _ | assumption | refine Below.drew ?_ | refine Below.alloc ?_ (by first | (simp; done) | (simp; omega)) _ | refine Below.setCell ?_ (by first | (simp; done) | (simp; omega)) _))
  have c0_0 : W.cell? ⟨w.heap.size, 0, none⟩ = some (.int .i64 gr.p) := by rw [hW]; simp [go_sem]
  have c0_1 : W.cell? ⟨w.heap.size, 1, none⟩ = some (.int .i64 gr.q) := by rw [hW]; simp [go_sem]
  have c0_2 : W.cell? ⟨w.heap.size, 2, none⟩ = some (.int .i64 gr.g) := by rw [hW]; simp [go_sem]
  have HSW : Hid (W.heap.size = w.heap.size + 1) := by unfold Hid; rw [hW]; simp
  go_enter Try.func224, Try.ntmps224
  go_wp2_with fail
  rw [← hW]
  clear hW
  have hc : Below W.heap.size W W := Below.refl _ _
  go_wp2_with fail
  refine (impl_pow gr x (-1) _ HG.out hx ⟨by decide, by decide⟩).mono ?_
  rintro e u1 ⟨rfl, hq1⟩
  replace hc := Below.next hc hq1
  replace c0_0 := box_at c0_0 hq1
  replace c0_1 := box_at c0_1 hq1
  replace c0_2 := box_at c0_2 hq1
  clear hq1
  go_wp2_with fail
  go_ret
  exact ⟨rfl, HB.out.trans (hc.mono HB.out.size)⟩
set_option maxRecDepth 100000 in
set_option maxHeartbeats 2000000 in
theorem spec_gInv (gr : GroupD) (x : Int) (w : World) (hg : OkG gr) (hx : Small x) :
    Calls Try.prog 311 #[.agg #[.int .i64 gr.p, .int .i64 gr.q, .int .i64 gr.g], .int .i64 x] w fun e w' => e = .returned (.int .i64 (powE gr x (-1))) ∧ Below w.heap.size w w' := by
  have HG := Lib.hid hg
  have hg1 := hg.g1
  have hg2 := hg.g2
  have hp1 := hg.p1
  have hp2 := hg.p2
  have hq1 := hg.q1
  have hq2 := hg.q2
  clear hg
  obtain ⟨hx1, hx2⟩ := hx
  have hw1 : IntKind.i64.wrap (gr.q - 1) = gr.q - 1 := IntWalk.i64_in _ (by omega)
  have HEQ : Hid (powE gr x (-1) = powM x (gr.q - 1) gr.p) := by unfold Hid powE; rw [show (-1 : Int) % gr.q = gr.q - 1 from by rw [show (-1 : Int) = (gr.q - 1) - gr.q by omega, Int.sub_emod, Int.emod_self, Int.sub_zero, Int.emod_emod, Int.emod_eq_of_lt (by omega) (by omega)]]
  rw [HEQ.out]
  obtain ⟨W, hW⟩ : ∃ W, W = w.alloc (.cells #[.int .i64 gr.p, .int .i64 gr.q, .int .i64 gr.g] 39) := ⟨_, rfl⟩
  have HB : Hid (Below w.heap.size w W) := by unfold Hid; rw [hW]; (repeat (first | exact Below.refl _ _ | assumption | refine Below.drew ?_ | refine Below.alloc ?_ (by first | (simp; done) | (simp; omega)) _ | refine Below.setCell ?_ (by first | (simp; done) | (simp; omega)) _))
  have c0_0 : W.cell? ⟨w.heap.size, 0, none⟩ = some (.int .i64 gr.p) := by rw [hW]; simp [go_sem]
  have c0_1 : W.cell? ⟨w.heap.size, 1, none⟩ = some (.int .i64 gr.q) := by rw [hW]; simp [go_sem]
  have c0_2 : W.cell? ⟨w.heap.size, 2, none⟩ = some (.int .i64 gr.g) := by rw [hW]; simp [go_sem]
  have HSW : Hid (W.heap.size = w.heap.size + 1) := by unfold Hid; rw [hW]; simp
  go_enter Try.func311, Try.ntmps311
  go_wp2_with fail
  rw [← hW]
  clear hW
  have hc : Below W.heap.size W W := Below.refl _ _
  go_wp2_with fail
  refine (spec_nPower x (gr.q - 1) gr.p _ ⟨by omega, by omega⟩ ⟨by omega, by omega⟩ ⟨by omega, by omega⟩).mono ?_
  rintro e u1 ⟨rfl, rfl⟩
  go_wp2_with fail
  go_ret
  exact ⟨rfl, HB.out.trans (hc.mono HB.out.size)⟩
set_option maxRecDepth 100000 in
set_option maxHeartbeats 2000000 in
theorem impl_decrypt (gr : GroupD) (s0 : Int) (c : CipherD) (w : World) (hg : OkG gr) (hs : I64 s0) (hcc : SmallC c) :
    Calls Try.prog 164 #[.agg #[.int .i64 gr.p, .int .i64 gr.q, .int .i64 gr.g], .int .i64 s0, .agg #[.int .i64 c.a, .int .i64 c.b]] w fun e w' => e = .returned (.int .i64 (deC gr s0 c)) ∧ Below w.heap.size w w' := by
  have HG := Lib.hid hg
  clear hg
  have HV : Hid ((.int .i64 (deC gr s0 c) : Value) = .int .i64 (mulL gr [c.b, powE gr (powE gr c.a s0) (-1)])) := by unfold Hid; simp [deC]
  rw [HV.out]
  obtain ⟨W, hW⟩ : ∃ W, W = (w.alloc (.cells #[.int .i64 gr.p, .int .i64 gr.q, .int .i64 gr.g] 39)).alloc (.cells #[.int .i64 c.a, .int .i64 c.b] 58) := ⟨_, rfl⟩
  have HB : Hid (Below w.heap.size w W) := by unfold Hid; rw [hW]; (repeat (first | exact Below.refl _ _ | assumption | refine Below.drew ?_ | refine Below.alloc ?_ (by first | (simp; done) | (simp; omega)) _ | refine Below.setCell ?_ (by first | (simp; done) | (simp; omega)) _))
  have c0_0 : W.cell? ⟨w.heap.size, 0, none⟩ = some (.int .i64 gr.p) := by rw [hW]; simp [go_sem]
  have c0_1 : W.cell? ⟨w.heap.size, 1, none⟩ = some (.int .i64 gr.q) := by rw [hW]; simp [go_sem]
  have c0_2 : W.cell? ⟨w.heap.size, 2, none⟩ = some (.int .i64 gr.g) := by rw [hW]; simp [go_sem]
  have c1_0 : W.cell? ⟨w.heap.size + 1, 0, none⟩ = some (.int .i64 c.a) := by rw [hW]; simp [go_sem]
  have c1_1 : W.cell? ⟨w.heap.size + 1, 1, none⟩ = some (.int .i64 c.b) := by rw [hW]; simp [go_sem]
  have HSW : Hid (W.heap.size = w.heap.size + 2) := by unfold Hid; rw [hW]; simp
  go_enter Try.func164, Try.ntmps164
  go_wp2_with fail
  rw [← hW]
  clear hW
  have hc : Below W.heap.size W W := Below.refl _ _
  try (go_wp2_with fail)
  refine wp_region_noPanic ?_
  refine wp_region_P (fun w' => w'.cell? ⟨w.heap.size, 0, none⟩ = some (.int .i64 gr.p) ∧ w'.cell? ⟨w.heap.size, 1, none⟩ = some (.int .i64 gr.q) ∧ w'.cell? ⟨w.heap.size, 2, none⟩ = some (.int .i64 gr.g) ∧ w'.cell? ⟨w.heap.size + 1, 0, none⟩ = some (.int .i64 c.a) ∧ w'.cell? ⟨w.heap.size + 1, 1, none⟩ = some (.int .i64 c.b)) 15 [(0, []), (1, []), (2, [0]), (3, []), (4, []), (5, []), (6, [0]), (7, []), (8, [3, 1, 0]), (9, [5, 0]), (10, [7, 0]), (11, [10, 0]), (12, [0])] [] (by kernel_rfl) (by kernel_rfl) (by kernel_rfl) rfl (fun _ _ _ _ h => h) (fun w' h => ⟨box_at c0_0 h, box_at c0_1 h, box_at c0_2 h, box_at c1_0 h, box_at c1_1 h⟩) ?_
  simp only [pickP, pickN, List.getElem?_cons_zero, List.getElem?_cons_succ]
  -- 0: load 39 t3
  refine' chainP_read (d := (some 7)) _ rfl rfl (fun w' hS' => ?_) ?_; rotate_left
  · simp only [lookP, allP, Act.put, List.getElem?_cons_zero, List.getElem?_cons_succ, List.setIfInBounds_toArray, List.set_cons_zero, List.set_cons_succ]
    (try dsimp only at hS')
    go_simp
    (try with_reducible rfl)
  -- 1: fieldAddr 58 t5 1
  refine' chainP_read (d := (some 8)) _ rfl rfl (fun w' hS' => ?_) ?_; rotate_left
  · simp only [lookP, allP, Act.put, List.getElem?_cons_zero, List.getElem?_cons_succ, List.setIfInBounds_toArray, List.set_cons_zero, List.set_cons_succ]
    (try dsimp only at hS')
    go_simp
    (try with_reducible rfl)
  -- 2: load 3 t8
  refine' chainP_read (d := (some 9)) _ rfl rfl (fun w' hS' => ?_) ?_; rotate_left
  · simp only [lookP, allP, Act.put, List.getElem?_cons_zero, List.getElem?_cons_succ, List.setIfInBounds_toArray, List.set_cons_zero, List.set_cons_succ]
    (try dsimp only at hS')
    go_simp
    (try with_reducible rfl)
  -- 3: load 39 t3
  refine' chainP_read (d := (some 10)) _ rfl rfl (fun w' hS' => ?_) ?_; rotate_left
  · simp only [lookP, allP, Act.put, List.getElem?_cons_zero, List.getElem?_cons_succ, List.setIfInBounds_toArray, List.set_cons_zero, List.set_cons_succ]
    (try dsimp only at hS')
    go_simp
    (try with_reducible rfl)
  -- 4: load 39 t3
  refine' chainP_read (d := (some 11)) _ rfl rfl (fun w' hS' => ?_) ?_; rotate_left
  · simp only [lookP, allP, Act.put, List.getElem?_cons_zero, List.getElem?_cons_succ, List.setIfInBounds_toArray, List.set_cons_zero, List.set_cons_succ]
    (try dsimp only at hS')
    go_simp
    (try with_reducible rfl)
  -- 5: fieldAddr 58 t5 0
  refine' chainP_read (d := (some 12)) _ rfl rfl (fun w' hS' => ?_) ?_; rotate_left
  · simp only [lookP, allP, Act.put, List.getElem?_cons_zero, List.getElem?_cons_succ, List.setIfInBounds_toArray, List.set_cons_zero, List.set_cons_succ]
    (try dsimp only at hS')
    go_simp
    (try with_reducible rfl)
  -- 6: load 3 t12
  refine' chainP_read (d := (some 13)) _ rfl rfl (fun w' hS' => ?_) ?_; rotate_left
  · simp only [lookP, allP, Act.put, List.getElem?_cons_zero, List.getElem?_cons_succ, List.setIfInBounds_toArray, List.set_cons_zero, List.set_cons_succ]
    (try dsimp only at hS')
    go_simp
    (try with_reducible rfl)
  -- 7: move t1
  refine' chainP_read (d := (some 14)) _ rfl rfl (fun w' hS' => ?_) ?_; rotate_left
  · simp only [lookP, allP, Act.put, List.getElem?_cons_zero, List.getElem?_cons_succ, List.setIfInBounds_toArray, List.set_cons_zero, List.set_cons_succ]
    (try dsimp only at hS')
    go_simp
    (try with_reducible rfl)
  -- 8: call { callee := value (func 165), args := #[t11, t13, t14], argTypes := #[39, 3, 3] }
  refine chainP_call (d := (some 15)) (.int .i64 (powE gr c.a s0)) rfl rfl (fun w' hS' => ?_) ?_
  · simp only [lookP, allP, Act.put, List.getElem?_cons_zero, List.getElem?_cons_succ, List.setIfInBounds_toArray, List.set_cons_zero, List.set_cons_succ]
    intro K hK
    go_simp
    go_at_call 165
    refine (impl_pow gr c.a s0 _ HG.out hcc.1 hs).mono ?_
    rintro e u ⟨rfl, hq⟩
    exact hK.out _ hq
  -- 9: call { callee := value (func 224), args := #[t10, t15], argTypes := #[39, 3] }
  refine chainP_call (d := (some 16)) (.int .i64 (powE gr (powE gr c.a s0) (-1))) rfl rfl (fun w' hS' => ?_) ?_
  · simp only [lookP, allP, Act.put, List.getElem?_cons_zero, List.getElem?_cons_succ, List.setIfInBounds_toArray, List.set_cons_zero, List.set_cons_succ]
    intro K hK
    go_simp
    go_at_call 224
    refine (impl_inv gr (powE gr c.a s0) _ HG.out (powE_small HG.out _ _)).mono ?_
    rintro e u ⟨rfl, hq⟩
    exact hK.out _ hq
  -- 10: buildSlice 24 2 #[(0, t9), (1, t16)]
  refine chainP_do (d := (some 17)) (fun v w => Ints w v [c.b, powE gr (powE gr c.a s0) (-1)]) (fun v w w' hb h => Ints.below h hb) rfl rfl (fun w' hS' => ?_) ?_
  · simp only [lookP, allP, Act.put, List.getElem?_cons_zero, List.getElem?_cons_succ, List.setIfInBounds_toArray, List.set_cons_zero, List.set_cons_succ]
    intro K hK
    go_simp
    refine hK.out _ _ ((Below.refl _ _).alloc (Nat.le_refl _) _) ?_
    exact (OwnI.lit (B := w'.heap.size) w' (Nat.le_refl _) (l := [c.b, powE gr (powE gr c.a s0) (-1)]) (AllI64.cons (small_64 hcc.2) (AllI64.cons (small_64 (powE_small HG.out _ _)) AllI64.nil)) rfl (by simp [maxLen]) 2 rfl).ints
  -- 11: call { callee := value (func 197), args := #[t7, t17], argTypes := #[39, 24] }
  refine chainP_call (d := (some 18)) (.int .i64 (mulL gr [c.b, powE gr (powE gr c.a s0) (-1)])) rfl rfl (fun w' hS' => ?_) ?_
  · simp only [lookP, allP, Act.put, List.getElem?_cons_zero, List.getElem?_cons_succ, List.setIfInBounds_toArray, List.set_cons_zero, List.set_cons_succ]
    intro x10 hx10
    intro K hK
    go_simp
    go_at_call 197
    refine (impl_mul gr _ [c.b, powE gr (powE gr c.a s0) (-1)] _ HG.out hx10 (AllSmall.cons hcc.2 (AllSmall.cons (powE_small HG.out _ _) AllSmall.nil))).mono ?_
    rintro e u ⟨rfl, hq⟩
    exact hK.out _ hq
  -- 12: assign t18
  refine' chainP_read (d := (some 6)) _ rfl rfl (fun w' hS' => ?_) ?_; rotate_left
  · simp only [lookP, allP, Act.put, List.getElem?_cons_zero, List.getElem?_cons_succ, List.setIfInBounds_toArray, List.set_cons_zero, List.set_cons_succ]
    (try dsimp only at hS')
    go_simp
    (try with_reducible rfl)
  refine chainP_nil (fun u1 hS' => ?_)
  simp only [allP, Act.put, List.setIfInBounds_toArray, List.set_cons_zero, List.set_cons_succ]
  intro x10 hx10
  have hq1 := hS'.1
  clear hS'
  replace hc := Below.next hc hq1
  replace c0_0 := box_at c0_0 hq1
  replace c0_1 := box_at c0_1 hq1
  replace c0_2 := box_at c0_2 hq1
  replace c1_0 := box_at c1_0 hq1
  replace c1_1 := box_at c1_1 hq1
  clear hq1
  go_wp2_with fail
  refine NoPanic.normal ?_
  go_wp2_with fail
  go_ret
  exact ⟨rfl, HB.out.trans (hc.mono HB.out.size)⟩
set_option maxRecDepth 100000 in
set_option maxHeartbeats 2000000 in
theorem spec_eDec (gr : GroupD) (s0 : Int) (c : CipherD) (w : World) (hg : OkG gr) (hs : I64 s0) (hcc : SmallC c) :
    Calls Try.prog 268 #[.agg #[.int .i64 gr.p, .int .i64 gr.q, .int .i64 gr.g], .int .i64 s0, .agg #[.int .i64 c.a, .int .i64 c.b]] w fun e w' => e = .returned (.int .i64 (deC gr s0 c)) ∧ Below w.heap.size w w' := by
  have HG := Lib.hid hg
  clear hg
  have HV : Hid ((.int .i64 (deC gr s0 c) : Value) = .int .i64 (mulL gr [c.b, powE gr (powE gr c.a s0) (-1)])) := by unfold Hid; simp [deC]
  rw [HV.out]
  obtain ⟨W, hW⟩ : ∃ W, W = (w.alloc (.cells #[.int .i64 gr.p, .int .i64 gr.q, .int .i64 gr.g] 39)).alloc (.cells #[.int .i64 c.a, .int .i64 c.b] 58) := ⟨_, rfl⟩
  have HB : Hid (Below w.heap.size w W) := by unfold Hid; rw [hW]; (repeat (first | exact Below.refl _ _ | assumption | refine Below.drew ?_ | refine Below.alloc ?_ (by first | (simp; done) | (simp; omega)) _ | refine Below.setCell ?_ (by first | (simp; done) | (simp; omega)) _))
  have c0_0 : W.cell? ⟨w.heap.size, 0, none⟩ = some (.int .i64 gr.p) := by rw [hW]; simp [go_sem]
  have c0_1 : W.cell? ⟨w.heap.size, 1, none⟩ = some (.int .i64 gr.q) := by rw [hW]; simp [go_sem]
  have c0_2 : W.cell? ⟨w.heap.size, 2, none⟩ = some (.int .i64 gr.g) := by rw [hW]; simp [go_sem]
  have c1_0 : W.cell? ⟨w.heap.size + 1, 0, none⟩ = some (.int .i64 c.a) := by rw [hW]; simp [go_sem]
  have c1_1 : W.cell? ⟨w.heap.size + 1, 1, none⟩ = some (.int .i64 c.b) := by rw [hW]; simp [go_sem]
  have HSW : Hid (W.heap.size = w.heap.size + 2) := by unfold Hid; rw [hW]; simp
  go_enter Try.func268, Try.ntmps268
  go_wp2_with fail
  rw [← hW]
  clear hW
  have hc : Below W.heap.size W W := Below.refl _ _
  try (go_wp2_with fail)
  refine wp_region_noPanic ?_
  refine wp_region_P (fun w' => w'.cell? ⟨w.heap.size, 0, none⟩ = some (.int .i64 gr.p) ∧ w'.cell? ⟨w.heap.size, 1, none⟩ = some (.int .i64 gr.q) ∧ w'.cell? ⟨w.heap.size, 2, none⟩ = some (.int .i64 gr.g) ∧ w'.cell? ⟨w.heap.size + 1, 0, none⟩ = some (.int .i64 c.a) ∧ w'.cell? ⟨w.heap.size + 1, 1, none⟩ = some (.int .i64 c.b)) 15 [(0, []), (1, []), (2, [0]), (3, []), (4, []), (5, []), (6, [0]), (7, []), (8, [3, 1, 0]), (9, [5, 0]), (10, [7, 0]), (11, [10, 0]), (12, [0])] [] (by kernel_rfl) (by kernel_rfl) (by kernel_rfl) rfl (fun _ _ _ _ h => h) (fun w' h => ⟨box_at c0_0 h, box_at c0_1 h, box_at c0_2 h, box_at c1_0 h, box_at c1_1 h⟩) ?_
  simp only [pickP, pickN, List.getElem?_cons_zero, List.getElem?_cons_succ]
  -- 0: load 39 t3
  refine' chainP_read (d := (some 7)) _ rfl rfl (fun w' hS' => ?_) ?_; rotate_left
  · simp only [lookP, allP, Act.put, List.getElem?_cons_zero, List.getElem?_cons_succ, List.setIfInBounds_toArray, List.set_cons_zero, List.set_cons_succ]
    (try dsimp only at hS')
    go_simp
    (try with_reducible rfl)
  -- 1: fieldAddr 58 t5 1
  refine' chainP_read (d := (some 8)) _ rfl rfl (fun w' hS' => ?_) ?_; rotate_left
  · simp only [lookP, allP, Act.put, List.getElem?_cons_zero, List.getElem?_cons_succ, List.setIfInBounds_toArray, List.set_cons_zero, List.set_cons_succ]
    (try dsimp only at hS')
    go_simp
    (try with_reducible rfl)
  -- 2: load 3 t8
  refine' chainP_read (d := (some 9)) _ rfl rfl (fun w' hS' => ?_) ?_; rotate_left
  · simp only [lookP, allP, Act.put, List.getElem?_cons_zero, List.getElem?_cons_succ, List.setIfInBounds_toArray, List.set_cons_zero, List.set_cons_succ]
    (try dsimp only at hS')
    go_simp
    (try with_reducible rfl)
  -- 3: load 39 t3
  refine' chainP_read (d := (some 10)) _ rfl rfl (fun w' hS' => ?_) ?_; rotate_left
  · simp only [lookP, allP, Act.put, List.getElem?_cons_zero, List.getElem?_cons_succ, List.setIfInBounds_toArray, List.set_cons_zero, List.set_cons_succ]
    (try dsimp only at hS')
    go_simp
    (try with_reducible rfl)
  -- 4: load 39 t3
  refine' chainP_read (d := (some 11)) _ rfl rfl (fun w' hS' => ?_) ?_; rotate_left
  · simp only [lookP, allP, Act.put, List.getElem?_cons_zero, List.getElem?_cons_succ, List.setIfInBounds_toArray, List.set_cons_zero, List.set_cons_succ]
    (try dsimp only at hS')
    go_simp
    (try with_reducible rfl)
  -- 5: fieldAddr 58 t5 0
  refine' chainP_read (d := (some 12)) _ rfl rfl (fun w' hS' => ?_) ?_; rotate_left
  · simp only [lookP, allP, Act.put, List.getElem?_cons_zero, List.getElem?_cons_succ, List.setIfInBounds_toArray, List.set_cons_zero, List.set_cons_succ]
    (try dsimp only at hS')
    go_simp
    (try with_reducible rfl)
  -- 6: load 3 t12
  refine' chainP_read (d := (some 13)) _ rfl rfl (fun w' hS' => ?_) ?_; rotate_left
  · simp only [lookP, allP, Act.put, List.getElem?_cons_zero, List.getElem?_cons_succ, List.setIfInBounds_toArray, List.set_cons_zero, List.set_cons_succ]
    (try dsimp only at hS')
    go_simp
    (try with_reducible rfl)
  -- 7: move t1
  refine' chainP_read (d := (some 14)) _ rfl rfl (fun w' hS' => ?_) ?_; rotate_left
  · simp only [lookP, allP, Act.put, List.getElem?_cons_zero, List.getElem?_cons_succ, List.setIfInBounds_toArray, List.set_cons_zero, List.set_cons_succ]
    (try dsimp only at hS')
    go_simp
    (try with_reducible rfl)
  -- 8: call { callee := value (func 156), args := #[t11, t13, t14], argTypes := #[39, 3, 3] }
  refine chainP_call (d := (some 15)) (.int .i64 (powE gr c.a s0)) rfl rfl (fun w' hS' => ?_) ?_
  · simp only [lookP, allP, Act.put, List.getElem?_cons_zero, List.getElem?_cons_succ, List.setIfInBounds_toArray, List.set_cons_zero, List.set_cons_succ]
    intro K hK
    go_simp
    go_at_call 156
    refine (spec_gExp gr c.a s0 _ HG.out hcc.1 hs).mono ?_
    rintro e u ⟨rfl, hq⟩
    exact hK.out _ hq
  -- 9: call { callee := value (func 311), args := #[t10, t15], argTypes := #[39, 3] }
  refine chainP_call (d := (some 16)) (.int .i64 (powE gr (powE gr c.a s0) (-1))) rfl rfl (fun w' hS' => ?_) ?_
  · simp only [lookP, allP, Act.put, List.getElem?_cons_zero, List.getElem?_cons_succ, List.setIfInBounds_toArray, List.set_cons_zero, List.set_cons_succ]
    intro K hK
    go_simp
    go_at_call 311
    refine (spec_gInv gr (powE gr c.a s0) _ HG.out (powE_small HG.out _ _)).mono ?_
    rintro e u ⟨rfl, hq⟩
    exact hK.out _ hq
  -- 10: buildSlice 24 2 #[(0, t9), (1, t16)]
  refine chainP_do (d := (some 17)) (fun v w => Ints w v [c.b, powE gr (powE gr c.a s0) (-1)]) (fun v w w' hb h => Ints.below h hb) rfl rfl (fun w' hS' => ?_) ?_
  · simp only [lookP, allP, Act.put, List.getElem?_cons_zero, List.getElem?_cons_succ, List.setIfInBounds_toArray, List.set_cons_zero, List.set_cons_succ]
    intro K hK
    go_simp
    refine hK.out _ _ ((Below.refl _ _).alloc (Nat.le_refl _) _) ?_
    exact (OwnI.lit (B := w'.heap.size) w' (Nat.le_refl _) (l := [c.b, powE gr (powE gr c.a s0) (-1)]) (AllI64.cons (small_64 hcc.2) (AllI64.cons (small_64 (powE_small HG.out _ _)) AllI64.nil)) rfl (by simp [maxLen]) 2 rfl).ints
  -- 11: call { callee := value (func 211), args := #[t7, t17], argTypes := #[39, 24] }
  refine chainP_call (d := (some 18)) (.int .i64 (mulL gr [c.b, powE gr (powE gr c.a s0) (-1)])) rfl rfl (fun w' hS' => ?_) ?_
  · simp only [lookP, allP, Act.put, List.getElem?_cons_zero, List.getElem?_cons_succ, List.setIfInBounds_toArray, List.set_cons_zero, List.set_cons_succ]
    intro x10 hx10
    intro K hK
    go_simp
    go_at_call 211
    refine (spec_gMul gr _ [c.b, powE gr (powE gr c.a s0) (-1)] _ HG.out hx10 (AllSmall.cons hcc.2 (AllSmall.cons (powE_small HG.out _ _) AllSmall.nil))).mono ?_
    rintro e u ⟨rfl, hq⟩
    exact hK.out _ hq
  -- 12: assign t18
  refine' chainP_read (d := (some 6)) _ rfl rfl (fun w' hS' => ?_) ?_; rotate_left
  · simp only [lookP, allP, Act.put, List.getElem?_cons_zero, List.getElem?_cons_succ, List.setIfInBounds_toArray, List.set_cons_zero, List.set_cons_succ]
    (try dsimp only at hS')
    go_simp
    (try with_reducible rfl)
  refine chainP_nil (fun u1 hS' => ?_)
  simp only [allP, Act.put, List.setIfInBounds_toArray, List.set_cons_zero, List.set_cons_succ]
  intro x10 hx10
  have hq1 := hS'.1
  clear hS'
  replace hc := Below.next hc hq1
  replace c0_0 := box_at c0_0 hq1
  replace c0_1 := box_at c0_1 hq1
  replace c0_2 := box_at c0_2 hq1
  replace c1_0 := box_at c1_0 hq1
  replace c1_1 := box_at c1_1 hq1
  clear hq1
  go_wp2_with fail
  refine NoPanic.normal ?_
  go_wp2_with fail
  go_ret
  exact ⟨rfl, HB.out.trans (hc.mono HB.out.size)⟩
end Go.Proofs.Ytboahnklilmdpaa
namespace Go.Proofs.Ytboahnklilmdpaa
open Go.RowKit
set_option linter.unusedSimpArgs false
set_option linter.unusedVariables false

theorem wpList_append_FrX {δ : Type} {e : TypeId} {R : RowK δ} {w0 w : World} {B : Nat} {v : Value} {ds es : List δ} {P : Program} (ts : TypeId) (i : TypeInfo) (z : Value) (ht : P.underlying ts = some (.slice e)) (hi' : P.info? e = some i) (hz : i.zero = some z) (hsz : i.size = R.width) (hby : i.bytes ≤ 1000) (hzs : z.cells.size = R.width) (hpos : 0 < R.width)
    {ops : Array Oper} {rest : List Oper} {o : Oper} {ac : Act} {Q : Exit → Act → World → Prop} (hgd : o.guard = none) (s y : Operand)
    (ho : o.op = .call { callee := .builtin .append, args := #[s, y], argTypes := #[ts, ts] })
    (hown : FrR e R w0 w B v ds) {u : Value} (hs : ac.eval s = v) (hy : ac.eval y = u) (hrd : RdR R w0 u es) (hbw : Below w0.heap.size w0 w) (hB : B ≤ w.heap.size) (hlen : ds.length + es.length ≤ 1000000000)
    (hK : ∀ v' w', FrR e R w0 w' B v' (ds ++ es) → Below B w w' → wpList P ops Q rest (ac.put o.dst v') w') : wpList P ops Q (o :: rest) ac w := by
  obtain ⟨a, n, c, rfl⟩ := hrd.shape
  cases a with
  | none =>
    have hn := hrd.len
    have h0 : n = 0 := by
      rcases Nat.eq_zero_or_pos n with h | h
      · exact h
      · obtain ⟨b, o, hc, _⟩ := hrd.at_ h
        cases hc
    have hc : c = 0 := by
      obtain ⟨a, n', c', e, _, _, _, h⟩ := hrd
      rcases h with ⟨_, _, h⟩ | ⟨ad, h, _⟩ | ⟨b, o, h, _⟩
      · cases e; exact h
      · cases e; cases h
      · cases e; cases h
    subst h0; subst hc
    have : es = [] := List.eq_nil_of_length_eq_zero hn
    subst this
    obtain ⟨css, hl, hO, hel⟩ := hown
    have hr := run_append_owned_none (P := P) (w := w) B ts o.type e i R.width ht hi' v ds.length css.flatten hO
    refine wpList_plain hgd fun K hK' => ?_
    unfold Oper.wp execOp
    simp only [ho, resolve, invoke, builtin, Sem.run_bind, Sem.run_pure, Result.andThen_ok, List.map_toArray, List.map_cons, List.map_nil, hs, hy, hr]
    exact hK' _ _ (hK v w (by rw [List.append_nil]; exact ⟨css, hl, hO, hel⟩) (Below.refl _ _))
  | some ad =>
    obtain ⟨css, h1, h2, h3⟩ := rows_of_RdR hrd
    exact wpList_append_Fr ts i z ht hi' hz hsz hby hzs hpos hgd s y ho hown ad n c css hs hy h1 hrd.len (fun j u hu => (hbw.cell (p := ad.add j) (World.block_lt_of_cell? w0 _ (h2 j u hu))).trans (h2 j u hu)) h3 hB hlen hK
theorem infoC : ∃ i, Try.prog.info? 58 = some i ∧ i.zero = some (.agg #[.int .i64 0, .int .i64 0]) ∧ i.size = 2 ∧ i.bytes ≤ 1000 := by
  have h : (Try.prog.info? 58).map (fun i => (i.zero, i.size, decide (i.bytes ≤ 1000))) = some (some (.agg #[.int .i64 0, .int .i64 0]), 2, true) := by kernel_rfl
  obtain ⟨i, hi, hz⟩ := Option.map_eq_some_iff.1 h
  simp only [Prod.mk.injEq] at hz
  exact ⟨i, hi, hz.1, hz.2.1, of_decide_eq_true hz.2.2⟩
/-- a row of ciphertexts of the call's own -/
def OwnC (w : World) (B : Nat) (v : Value) (l : List CipherD) : Prop := FrR 58 rCipher w w B v l
theorem rdC_any {w1 w2 : World} {vs : List Value} {d : CipherD} (h : rCipher.rd w1 vs d) : rCipher.rd w2 vs d := by
  obtain ⟨e, j1, j2⟩ := (rdCipher (w := w1) (v := .agg vs.toArray) (d := d)).1 ⟨vs, rfl, h⟩
  obtain rfl : vs = [.int .i64 d.a, .int .i64 d.b] := by have h := Value.agg.inj e; simpa using congrArg Array.toList h
  exact rowC ⟨j1, j2⟩
theorem FrR.anyC {w1 w2 w : World} {B : Nat} {v : Value} {l : List CipherD} (h : FrR 58 rCipher w1 w B v l) : FrR 58 rCipher w2 w B v l := by
  obtain ⟨css, h1, h2, h3⟩ := h
  exact ⟨css, h1, h2, fun i k1 k2 => rdC_any (h3 i k1 k2)⟩
theorem OwnC.nil (w : World) (B : Nat) : OwnC w B (.slice none 0 0) [] := FrR.nil _ _ _ _ _
theorem OwnC.lit0 (w : World) {B : Nat} (hB : B ≤ w.heap.size) : OwnC (w.alloc (.cells #[] 58)) B (.slice (some ⟨w.heap.size, 0, none⟩) 0 0) [] := (FrR.lit0 _ rCipher w w B hB).anyC
theorem OwnC.below {w w' : World} {B : Nat} {v : Value} {l : List CipherD} (h : OwnC w B v l) (hb : Below w.heap.size w w') : OwnC w' B v l := (FrR.below h hb).anyC
theorem OwnC.rd {w : World} {B : Nat} {v : Value} {l : List CipherD} (h : OwnC w B v l) : RdR rCipher w v l := FrR.rd h (Below.refl _ _)
theorem OwnC.shape {w : World} {B : Nat} {v : Value} {l : List CipherD} (h : OwnC w B v l) : ∃ a n c, v = .slice a n c := h.rd.shape
theorem wpList_append_C {w : World} {B : Nat} {v u : Value} {l es : List CipherD} {ops : Array Oper} {rest : List Oper} {o : Oper} {ac : Act} {Q : Exit → Act → World → Prop} (hgd : o.guard = none) (s y : Operand)
    (ho : o.op = .call { callee := .builtin .append, args := #[s, y], argTypes := #[52, 52] })
    (hown : OwnC w B v l) (hs : ac.eval s = v) (hy : ac.eval y = u) (hrd : RdR rCipher w u es) (hB : B ≤ w.heap.size) (hlen : l.length + es.length ≤ 1000000000)
    (hK : ∀ v' w', OwnC w' B v' (l ++ es) → Below B w w' → wpList Try.prog ops Q rest (ac.put o.dst v') w') : wpList Try.prog ops Q (o :: rest) ac w := by
  obtain ⟨i, h1, h2, h3, h4⟩ := infoC
  exact wpList_append_FrX (e := 58) (R := rCipher) (es := es) 52 i _ Try.underlying52 h1 h2 h3 h4 rfl (by decide) hgd s y ho hown hs hy hrd (Below.refl _ _) hB hlen (fun v' w' h hb => hK v' w' h.anyC hb)
end Go.Proofs.Ytboahnklilmdpaa
namespace Go.Proofs.Ytboahnklilmdpaa
open Go.RowKit
set_option linter.unusedSimpArgs false
set_option linter.unusedVariables false

theorem ciOf {a b : Int} (h1 : -10 ≤ a) (h2 : a ≤ 2000000010) (h3 : -10 ≤ b) (h4 : b ≤ 2000000010) : SmallCI ⟨a, b⟩ := ⟨(⟨by omega, by omega⟩ : I64 a), (⟨by omega, by omega⟩ : I64 b)⟩
theorem OwnC.shape2 {w : World} {B : Nat} {v : Value} {l : List CipherD} (h : OwnC w B v l) : ∃ a c, v = .slice a l.length c := by
  obtain ⟨a, n, c, rfl⟩ := h.shape
  have := h.rd.len
  subst this
  exact ⟨a, c, rfl⟩
theorem OwnC.frame {w w' : World} {B : Nat} {v : Value} {l : List CipherD} (h : OwnC w B v l) (hf : ∀ k, B ≤ k → k < w.heap.size → w'.heap[k]? = w.heap[k]?) : OwnC w' B v l :=
  (FrR.frame h fun g hg => hf g (FrR.lt h g hg).1 (FrR.lt h g hg).2).anyC
theorem OwnC.within {lo hi B : Nat} {w w' : World} {v : Value} {l : List CipherD} (h : OwnC w B v l) (hw : Within lo hi w w') (hd : hi ≤ B) : OwnC w' B v l := h.frame fun k hk hlt => hw.block k hlt (.inr (by omega))
end Go.Proofs.Ytboahnklilmdpaa
namespace Go.Proofs.Ytboahnklilmdpaa
open Go.RowKit
set_option linter.unusedSimpArgs false
set_option linter.unusedVariables false

/-- the element that a digest gives -/
def derX (gr : GroupD) (s : ByteArray) (k : Int) (c : Nat) : Int := powM (1 + hashOf (lab s ++ [gr.p, gr.q, gr.g, k, (c : Int)]) % (gr.p - 1)) ((gr.p - 1) / gr.q) gr.p
/-- the first of the first n that is not one, or nought -/
def derTo (gr : GroupD) (s : ByteArray) (k : Int) : Nat → Int
  | 0 => 0
  | n + 1 => if derTo gr s k n = 0 then (if derX gr s k n = 1 then 0 else derX gr s k n) else derTo gr s k n
/-- the derived element, or nought -/
def hD (gr : GroupD) (s : ByteArray) (k : Int) : Int := derTo gr s k 1000
end Go.Proofs.Ytboahnklilmdpaa
namespace Go.Proofs.Ytboahnklilmdpaa
open Go.RowKit
set_option linter.unusedSimpArgs false
set_option linter.unusedVariables false

/-- a contest is valid -/
def ctOk (k o l m p : Int) : Bool := decide (0 ≤ l ∧ l ≤ m ∧ ((k = 1 ∨ k = 3) ∧ 1 ≤ o ∧ o ≤ 8 ∧ m ≤ o ∧ p = 0 ∨ k = 2 ∧ 1 ≤ o ∧ o ≤ 8 ∧ 1 ≤ p ∧ p ≤ 5 ∧ m ≤ o * p ∨ k = 4 ∧ o = 0 ∧ m ≤ 5 ∧ p = 0))
theorem ctOk_bd {k o l m p : Int} (h : ctOk k o l m p = true) : 0 ≤ o ∧ o ≤ 8 ∧ 0 ≤ p ∧ p ≤ 5 ∧ 0 ≤ l ∧ l ≤ m ∧ m ≤ 40 := by
  unfold ctOk at h
  rw [decide_eq_true_iff] at h
  obtain ⟨h1, h2, h | ⟨h3, h4, h5, h6, h7, h8⟩ | h⟩ := h
  · omega
  · have := mul_bd (a := o) (b := p) (by omega) h5 (by omega) h7
    omega
  · omega
end Go.Proofs.Ytboahnklilmdpaa

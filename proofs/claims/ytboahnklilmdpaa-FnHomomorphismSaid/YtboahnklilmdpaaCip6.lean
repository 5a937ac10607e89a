/- Ciphertexts: decryption, products: walks (printed by gen_cip6.py). -/
import Derived.Test.YtboahnklilmdpaaCip5
import Derived.Test.YtboahnklilmdpaaPow3
namespace Go.Proofs.Ytboahnklilmdpaa
open Go.RowKit
set_option linter.unusedSimpArgs false
set_option linter.unusedVariables false

def deC (gr : GroupD) (s : Int) (c : CipherD) : Int := mulL gr [c.b, powE gr (powE gr c.a s) (-1)]
noncomputable def deB (gr : GroupD) (s : Int) (c : CipherD) : Bool := goodG gr && (expB gr s && ciB gr c)
noncomputable def deR (gr : GroupD) (s : Int) (c : CipherD) : Int := if deB gr s c = true then deC gr s c else 0
noncomputable def dxB (gr : GroupD) (s : Int) (c : CipherD) (m : Int) : Bool := deB gr s c && loB gr gr.g (deC gr s c) m
noncomputable def dxR (gr : GroupD) (s : Int) (c : CipherD) (m : Int) : Int := if deB gr s c = true then loR gr gr.g (deC gr s c) m else 0
noncomputable def mcB (gr : GroupD) (l : List CipherD) : Bool := goodG gr && cisB gr l
noncomputable def mcR (gr : GroupD) (l : List CipherD) : CipherD := if mcB gr l = true then eM gr l else ⟨0, 0⟩
noncomputable def wpB (gr : GroupD) (l : List CipherD) (es : List Int) : Bool := goodG gr && (cisB gr l && (decide (es.length = l.length) && es.all (expB gr)))
noncomputable def wpR (gr : GroupD) (l : List CipherD) (es : List Int) : CipherD := if wpB gr l es = true then wC gr l es else ⟨0, 0⟩
theorem deC_small {gr : GroupD} (hg : OkG gr) (s : Int) (c : CipherD) : Small (deC gr s c) := mulL_small hg _
set_option maxRecDepth 100000 in
set_option maxHeartbeats 2000000 in
theorem impl_inv (gr : GroupD) (x : Int) (w : World) (hg : OkG gr) (hx : Small x) :
    Calls Try.prog 224 #[.agg #[.int .i64 gr.p, .int .i64 gr.q, .int .i64 gr.g], .int .i64 x] w fun e w' => e = .returned (.int .i64 (powE gr x (-1))) ∧ Below w.heap.size w w' := by
  have HG := Lib.hid hg
  clear hg
  obtain ⟨W, hW⟩ : ∃ W, W = w.alloc (.cells #[.int .i64 gr.p, .int .i64 gr.q, .int .i64 gr.g] 39) := ⟨_, rfl⟩
  have HB : Hid (Below w.heap.size w W) := by unfold Hid; rw [hW]; (repeat (first | exact Below.refl _ _ | assumption | refine Below.drew ?_ | refine Below.alloc ?_ (by first | (simp; done) | (simp; omega)) _ | refine Below.setCell ?_ (by first | (simp; done) | (simp; omega)) _))
  have c0_0 : W.cell? ⟨w.heap.size, 0, none⟩ = some (.int .i64 gr.p) := by rw [hW]; simp [go_sem]
  have c0_1 : W.cell? ⟨w.heap.size, 1, none⟩ = some (.int .i64 gr.q) := by rw [hW]; simp [go_sem]
  have c0_2 : W.cell? ⟨w.heap.size, 2, none⟩ = some (.int .i64 gr.g) := by rw [hW]; simp [go_sem]
  have HSW : Hid (W.heap.size = w.heap.size + 1) := by unfold Hid; rw [hW]; simp
  go_enter Try.func224, Try.ntmps224
  go_wp2_with fail
  rw [← hW]
  clear hW
  have hc : Below W.heap.size W W := Below.refl _ _
  go_wp2_with fail
  refine (impl_pow gr x (-1) _ HG.out hx ⟨by decide, by decide⟩).mono ?_
  rintro e u1 ⟨rfl, hq1⟩
  replace hc := Below.next hc hq1
  replace c0_0 := box_at c0_0 hq1
  replace c0_1 := box_at c0_1 hq1
  replace c0_2 := box_at c0_2 hq1
  clear hq1
  go_wp2_with fail
  go_ret
  exact ⟨rfl, HB.out.trans (hc.mono HB.out.size)⟩
set_option maxRecDepth 100000 in
set_option maxHeartbeats 2000000 in
theorem spec_gInv (gr : GroupD) (x : Int) (w : World) (hg : OkG gr) (hx : Small x) :
    Calls Try.prog 311 #[.agg #[.int .i64 gr.p, .int .i64 gr.q, .int .i64 gr.g], .int .i64 x] w fun e w' => e = .returned (.int .i64 (powE gr x (-1))) ∧ Below w.heap.size w w' := by
  have HG := Lib.hid hg
  have hg1 := hg.g1
  have hg2 := hg.g2
  have hp1 := hg.p1
  have hp2 := hg.p2
  have hq1 := hg.q1
  have hq2 := hg.q2
  clear hg
  obtain ⟨hx1, hx2⟩ := hx
  have hw1 : IntKind.i64.wrap (gr.q - 1) = gr.q - 1 := IntWalk.i64_in _ (by omega)
  have HEQ : Hid (powE gr x (-1) = powM x (gr.q - 1) gr.p) := by unfold Hid powE; rw [show (-1 : Int) % gr.q = gr.q - 1 from by rw [show (-1 : Int) = (gr.q - 1) - gr.q by omega, Int.sub_emod, Int.emod_self, Int.sub_zero, Int.emod_emod, Int.emod_eq_of_lt (by omega) (by omega)]]
  rw [HEQ.out]
  obtain ⟨W, hW⟩ : ∃ W, W = w.alloc (.cells #[.int .i64 gr.p, .int .i64 gr.q, .int .i64 gr.g] 39) := ⟨_, rfl⟩
  have HB : Hid (Below w.heap.size w W) := by unfold Hid; rw [hW]; (repeat (first | exact Below.refl _ _ | assumption | refine Below.drew ?_ | refine Below.alloc ?_ (by first | (simp; done) | (simp; omega)) _ | refine Below.setCell ?_ (by first | (simp; done) | (simp; omega)) _))
  have c0_0 : W.cell? ⟨w.heap.size, 0, none⟩ = some (.int .i64 gr.p) := by rw [hW]; simp [go_sem]
  have c0_1 : W.cell? ⟨w.heap.size, 1, none⟩ = some (.int .i64 gr.q) := by rw [hW]; simp [go_sem]
  have c0_2 : W.cell? ⟨w.heap.size, 2, none⟩ = some (.int .i64 gr.g) := by rw [hW]; simp [go_sem]
  have HSW : Hid (W.heap.size = w.heap.size + 1) := by unfold Hid; rw [hW]; simp
  go_enter Try.func311, Try.ntmps311
  go_wp2_with fail
  rw [← hW]
  clear hW
  have hc : Below W.heap.size W W := Below.refl _ _
  go_wp2_with fail
  refine (spec_nPower x (gr.q - 1) gr.p _ ⟨by omega, by omega⟩ ⟨by omega, by omega⟩ ⟨by omega, by omega⟩).mono ?_
  rintro e u1 ⟨rfl, rfl⟩
  go_wp2_with fail
  go_ret
  exact ⟨rfl, HB.out.trans (hc.mono HB.out.size)⟩
set_option maxRecDepth 100000 in
set_option maxHeartbeats 2000000 in
theorem impl_decrypt (gr : GroupD) (s0 : Int) (c : CipherD) (w : World) (hg : OkG gr) (hs : I64 s0) (hcc : SmallC c) :
    Calls Try.prog 164 #[.agg #[.int .i64 gr.p, .int .i64 gr.q, .int .i64 gr.g], .int .i64 s0, .agg #[.int .i64 c.a, .int .i64 c.b]] w fun e w' => e = .returned (.int .i64 (deC gr s0 c)) ∧ Below w.heap.size w w' := by
  have HG := Lib.hid hg
  clear hg
  have HV : Hid ((.int .i64 (deC gr s0 c) : Value) = .int .i64 (mulL gr [c.b, powE gr (powE gr c.a s0) (-1)])) := by unfold Hid; simp [deC]
  rw [HV.out]
  obtain ⟨W, hW⟩ : ∃ W, W = (w.alloc (.cells #[.int .i64 gr.p, .int .i64 gr.q, .int .i64 gr.g] 39)).alloc (.cells #[.int .i64 c.a, .int .i64 c.b] 58) := ⟨_, rfl⟩
  have HB : Hid (Below w.heap.size w W) := by unfold Hid; rw [hW]; (repeat (first | exact Below.refl _ _ | assumption | refine Below.drew ?_ | refine Below.alloc ?_ (by first | (simp; done) | (simp; omega)) _ | refine Below.setCell ?_ (by first | (simp; done) | (simp; omega)) _))
  have c0_0 : W.cell? ⟨w.heap.size, 0, none⟩ = some (.int .i64 gr.p) := by rw [hW]; simp [go_sem]
  have c0_1 : W.cell? ⟨w.heap.size, 1, none⟩ = some (.int .i64 gr.q) := by rw [hW]; simp [go_sem]
  have c0_2 : W.cell? ⟨w.heap.size, 2, none⟩ = some (.int .i64 gr.g) := by rw [hW]; simp [go_sem]
  have c1_0 : W.cell? ⟨w.heap.size + 1, 0, none⟩ = some (.int .i64 c.a) := by rw [hW]; simp [go_sem]
  have c1_1 : W.cell? ⟨w.heap.size + 1, 1, none⟩ = some (.int .i64 c.b) := by rw [hW]; simp [go_sem]
  have HSW : Hid (W.heap.size = w.heap.size + 2) := by unfold Hid; rw [hW]; simp
  go_enter Try.func164, Try.ntmps164
  go_wp2_with fail
  rw [← hW]
  clear hW
  have hc : Below W.heap.size W W := Below.refl _ _
  try (go_wp2_with fail)
  refine wp_region_noPanic ?_
  refine wp_region_P (fun w' => w'.cell? ⟨w.heap.size, 0, none⟩ = some (.int .i64 gr.p) ∧ w'.cell? ⟨w.heap.size, 1, none⟩ = some (.int .i64 gr.q) ∧ w'.cell? ⟨w.heap.size, 2, none⟩ = some (.int .i64 gr.g) ∧ w'.cell? ⟨w.heap.size + 1, 0, none⟩ = some (.int .i64 c.a) ∧ w'.cell? ⟨w.heap.size + 1, 1, none⟩ = some (.int .i64 c.b)) 15 [(0, []), (1, []), (2, [0]), (3, []), (4, []), (5, []), (6, [0]), (7, []), (8, [3, 1, 0]), (9, [5, 0]), (10, [7, 0]), (11, [10, 0]), (12, [0])] [] (by kernel_rfl) (by kernel_rfl) (by kernel_rfl) rfl (fun _ _ _ _ h => h) (fun w' h => ⟨box_at c0_0 h, box_at c0_1 h, box_at c0_2 h, box_at c1_0 h, box_at c1_1 h⟩) ?_
  simp only [pickP, pickN, List.getElem?_cons_zero, List.getElem?_cons_succ]
  -- 0: load 39 t3
  refine' chainP_read (d := (some 7)) _ rfl rfl (fun w' hS' => ?_) ?_; rotate_left
  · simp only [lookP, allP, Act.put, List.getElem?_cons_zero, List.getElem?_cons_succ, List.setIfInBounds_toArray, List.set_cons_zero, List.set_cons_succ]
    (try dsimp only at hS')
    go_simp
    (try with_reducible rfl)
  -- 1: fieldAddr 58 t5 1
  refine' chainP_read (d := (some 8)) _ rfl rfl (fun w' hS' => ?_) ?_; rotate_left
  · simp only [lookP, allP, Act.put, List.getElem?_cons_zero, List.getElem?_cons_succ, List.setIfInBounds_toArray, List.set_cons_zero, List.set_cons_succ]
    (try dsimp only at hS')
    go_simp
    (try with_reducible rfl)
  -- 2: load 3 t8
  refine' chainP_read (d := (some 9)) _ rfl rfl (fun w' hS' => ?_) ?_; rotate_left
  · simp only [lookP, allP, Act.put, List.getElem?_cons_zero, List.getElem?_cons_succ, List.setIfInBounds_toArray, List.set_cons_zero, List.set_cons_succ]
    (try dsimp only at hS')
    go_simp
    (try with_reducible rfl)
  -- 3: load 39 t3
  refine' chainP_read (d := (some 10)) _ rfl rfl (fun w' hS' => ?_) ?_; rotate_left
  · simp only [lookP, allP, Act.put, List.getElem?_cons_zero, List.getElem?_cons_succ, List.setIfInBounds_toArray, List.set_cons_zero, List.set_cons_succ]
    (try dsimp only at hS')
    go_simp
    (try with_reducible rfl)
  -- 4: load 39 t3
  refine' chainP_read (d := (some 11)) _ rfl rfl (fun w' hS' => ?_) ?_; rotate_left
  · simp only [lookP, allP, Act.put, List.getElem?_cons_zero, List.getElem?_cons_succ, List.setIfInBounds_toArray, List.set_cons_zero, List.set_cons_succ]
    (try dsimp only at hS')
    go_simp
    (try with_reducible rfl)
  -- 5: fieldAddr 58 t5 0
  refine' chainP_read (d := (some 12)) _ rfl rfl (fun w' hS' => ?_) ?_; rotate_left
  · simp only [lookP, allP, Act.put, List.getElem?_cons_zero, List.getElem?_cons_succ, List.setIfInBounds_toArray, List.set_cons_zero, List.set_cons_succ]
    (try dsimp only at hS')
    go_simp
    (try with_reducible rfl)
  -- 6: load 3 t12
  refine' chainP_read (d := (some 13)) _ rfl rfl (fun w' hS' => ?_) ?_; rotate_left
  · simp only [lookP, allP, Act.put, List.getElem?_cons_zero, List.getElem?_cons_succ, List.setIfInBounds_toArray, List.set_cons_zero, List.set_cons_succ]
    (try dsimp only at hS')
    go_simp
    (try with_reducible rfl)
  -- 7: move t1
  refine' chainP_read (d := (some 14)) _ rfl rfl (fun w' hS' => ?_) ?_; rotate_left
  · simp only [lookP, allP, Act.put, List.getElem?_cons_zero, List.getElem?_cons_succ, List.setIfInBounds_toArray, List.set_cons_zero, List.set_cons_succ]
    (try dsimp only at hS')
    go_simp
    (try with_reducible rfl)
  -- 8: call { callee := value (func 165), args := #[t11, t13, t14], argTypes := #[39, 3, 3] }
  refine chainP_call (d := (some 15)) (.int .i64 (powE gr c.a s0)) rfl rfl (fun w' hS' => ?_) ?_
  · simp only [lookP, allP, Act.put, List.getElem?_cons_zero, List.getElem?_cons_succ, List.setIfInBounds_toArray, List.set_cons_zero, List.set_cons_succ]
    intro K hK
    go_simp
    go_at_call 165
    refine (impl_pow gr c.a s0 _ HG.out hcc.1 hs).mono ?_
    rintro e u ⟨rfl, hq⟩
    exact hK.out _ hq
  -- 9: call { callee := value (func 224), args := #[t10, t15], argTypes := #[39, 3] }
  refine chainP_call (d := (some 16)) (.int .i64 (powE gr (powE gr c.a s0) (-1))) rfl rfl (fun w' hS' => ?_) ?_
  · simp only [lookP, allP, Act.put, List.getElem?_cons_zero, List.getElem?_cons_succ, List.setIfInBounds_toArray, List.set_cons_zero, List.set_cons_succ]
    intro K hK
    go_simp
    go_at_call 224
    refine (impl_inv gr (powE gr c.a s0) _ HG.out (powE_small HG.out _ _)).mono ?_
    rintro e u ⟨rfl, hq⟩
    exact hK.out _ hq
  -- 10: buildSlice 24 2 #[(0, t9), (1, t16)]
  refine chainP_do (d := (some 17)) (fun v w => Ints w v [c.b, powE gr (powE gr c.a s0) (-1)]) (fun v w w' hb h => Ints.below h hb) rfl rfl (fun w' hS' => ?_) ?_
  · simp only [lookP, allP, Act.put, List.getElem?_cons_zero, List.getElem?_cons_succ, List.setIfInBounds_toArray, List.set_cons_zero, List.set_cons_succ]
    intro K hK
    go_simp
    refine hK.out _ _ ((Below.refl _ _).alloc (Nat.le_refl _) _) ?_
    exact (OwnI.lit (B := w'.heap.size) w' (Nat.le_refl _) (l := [c.b, powE gr (powE gr c.a s0) (-1)]) (AllI64.cons (small_64 hcc.2) (AllI64.cons (small_64 (powE_small HG.out _ _)) AllI64.nil)) rfl (by simp [maxLen]) 2 rfl).ints
  -- 11: call { callee := value (func 197), args := #[t7, t17], argTypes := #[39, 24] }
  refine chainP_call (d := (some 18)) (.int .i64 (mulL gr [c.b, powE gr (powE gr c.a s0) (-1)])) rfl rfl (fun w' hS' => ?_) ?_
  · simp only [lookP, allP, Act.put, List.getElem?_cons_zero, List.getElem?_cons_succ, List.setIfInBounds_toArray, List.set_cons_zero, List.set_cons_succ]
    intro x10 hx10
    intro K hK
    go_simp
    go_at_call 197
    refine (impl_mul gr _ [c.b, powE gr (powE gr c.a s0) (-1)] _ HG.out hx10 (AllSmall.cons hcc.2 (AllSmall.cons (powE_small HG.out _ _) AllSmall.nil))).mono ?_
    rintro e u ⟨rfl, hq⟩
    exact hK.out _ hq
  -- 12: assign t18
  refine' chainP_read (d := (some 6)) _ rfl rfl (fun w' hS' => ?_) ?_; rotate_left
  · simp only [lookP, allP, Act.put, List.getElem?_cons_zero, List.getElem?_cons_succ, List.setIfInBounds_toArray, List.set_cons_zero, List.set_cons_succ]
    (try dsimp only at hS')
    go_simp
    (try with_reducible rfl)
  refine chainP_nil (fun u1 hS' => ?_)
  simp only [allP, Act.put, List.setIfInBounds_toArray, List.set_cons_zero, List.set_cons_succ]
  intro x10 hx10
  have hq1 := hS'.1
  clear hS'
  replace hc := Below.next hc hq1
  replace c0_0 := box_at c0_0 hq1
  replace c0_1 := box_at c0_1 hq1
  replace c0_2 := box_at c0_2 hq1
  replace c1_0 := box_at c1_0 hq1
  replace c1_1 := box_at c1_1 hq1
  clear hq1
  go_wp2_with fail
  refine NoPanic.normal ?_
  go_wp2_with fail
  go_ret
  exact ⟨rfl, HB.out.trans (hc.mono HB.out.size)⟩
set_option maxRecDepth 100000 in
set_option maxHeartbeats 2000000 in
theorem spec_eDec (gr : GroupD) (s0 : Int) (c : CipherD) (w : World) (hg : OkG gr) (hs : I64 s0) (hcc : SmallC c) :
    Calls Try.prog 268 #[.agg #[.int .i64 gr.p, .int .i64 gr.q, .int .i64 gr.g], .int .i64 s0, .agg #[.int .i64 c.a, .int .i64 c.b]] w fun e w' => e = .returned (.int .i64 (deC gr s0 c)) ∧ Below w.heap.size w w' := by
  have HG := Lib.hid hg
  clear hg
  have HV : Hid ((.int .i64 (deC gr s0 c) : Value) = .int .i64 (mulL gr [c.b, powE gr (powE gr c.a s0) (-1)])) := by unfold Hid; simp [deC]
  rw [HV.out]
  obtain ⟨W, hW⟩ : ∃ W, W = (w.alloc (.cells #[.int .i64 gr.p, .int .i64 gr.q, .int .i64 gr.g] 39)).alloc (.cells #[.int .i64 c.a, .int .i64 c.b] 58) := ⟨_, rfl⟩
  have HB : Hid (Below w.heap.size w W) := by unfold Hid; rw [hW]; (repeat (first | exact Below.refl _ _ | assumption | refine Below.drew ?_ | refine Below.alloc ?_ (by first | (simp; done) | (simp; omega)) _ | refine Below.setCell ?_ (by first | (simp; done) | (simp; omega)) _))
  have c0_0 : W.cell? ⟨w.heap.size, 0, none⟩ = some (.int .i64 gr.p) := by rw [hW]; simp [go_sem]
  have c0_1 : W.cell? ⟨w.heap.size, 1, none⟩ = some (.int .i64 gr.q) := by rw [hW]; simp [go_sem]
  have c0_2 : W.cell? ⟨w.heap.size, 2, none⟩ = some (.int .i64 gr.g) := by rw [hW]; simp [go_sem]
  have c1_0 : W.cell? ⟨w.heap.size + 1, 0, none⟩ = some (.int .i64 c.a) := by rw [hW]; simp [go_sem]
  have c1_1 : W.cell? ⟨w.heap.size + 1, 1, none⟩ = some (.int .i64 c.b) := by rw [hW]; simp [go_sem]
  have HSW : Hid (W.heap.size = w.heap.size + 2) := by unfold Hid; rw [hW]; simp
  go_enter Try.func268, Try.ntmps268
  go_wp2_with fail
  rw [← hW]
  clear hW
  have hc : Below W.heap.size W W := Below.refl _ _
  try (go_wp2_with fail)
  refine wp_region_noPanic ?_
  refine wp_region_P (fun w' => w'.cell? ⟨w.heap.size, 0, none⟩ = some (.int .i64 gr.p) ∧ w'.cell? ⟨w.heap.size, 1, none⟩ = some (.int .i64 gr.q) ∧ w'.cell? ⟨w.heap.size, 2, none⟩ = some (.int .i64 gr.g) ∧ w'.cell? ⟨w.heap.size + 1, 0, none⟩ = some (.int .i64 c.a) ∧ w'.cell? ⟨w.heap.size + 1, 1, none⟩ = some (.int .i64 c.b)) 15 [(0, []), (1, []), (2, [0]), (3, []), (4, []), (5, []), (6, [0]), (7, []), (8, [3, 1, 0]), (9, [5, 0]), (10, [7, 0]), (11, [10, 0]), (12, [0])] [] (by kernel_rfl) (by kernel_rfl) (by kernel_rfl) rfl (fun _ _ _ _ h => h) (fun w' h => ⟨box_at c0_0 h, box_at c0_1 h, box_at c0_2 h, box_at c1_0 h, box_at c1_1 h⟩) ?_
  simp only [pickP, pickN, List.getElem?_cons_zero, List.getElem?_cons_succ]
  -- 0: load 39 t3
  refine' chainP_read (d := (some 7)) _ rfl rfl (fun w' hS' => ?_) ?_; rotate_left
  · simp only [lookP, allP, Act.put, List.getElem?_cons_zero, List.getElem?_cons_succ, List.setIfInBounds_toArray, List.set_cons_zero, List.set_cons_succ]
    (try dsimp only at hS')
    go_simp
    (try with_reducible rfl)
  -- 1: fieldAddr 58 t5 1
  refine' chainP_read (d := (some 8)) _ rfl rfl (fun w' hS' => ?_) ?_; rotate_left
  · simp only [lookP, allP, Act.put, List.getElem?_cons_zero, List.getElem?_cons_succ, List.setIfInBounds_toArray, List.set_cons_zero, List.set_cons_succ]
    (try dsimp only at hS')
    go_simp
    (try with_reducible rfl)
  -- 2: load 3 t8
  refine' chainP_read (d := (some 9)) _ rfl rfl (fun w' hS' => ?_) ?_; rotate_left
  · simp only [lookP, allP, Act.put, List.getElem?_cons_zero, List.getElem?_cons_succ, List.setIfInBounds_toArray, List.set_cons_zero, List.set_cons_succ]
    (try dsimp only at hS')
    go_simp
    (try with_reducible rfl)
  -- 3: load 39 t3
  refine' chainP_read (d := (some 10)) _ rfl rfl (fun w' hS' => ?_) ?_; rotate_left
  · simp only [lookP, allP, Act.put, List.getElem?_cons_zero, List.getElem?_cons_succ, List.setIfInBounds_toArray, List.set_cons_zero, List.set_cons_succ]
    (try dsimp only at hS')
    go_simp
    (try with_reducible rfl)
  -- 4: load 39 t3
  refine' chainP_read (d := (some 11)) _ rfl rfl (fun w' hS' => ?_) ?_; rotate_left
  · simp only [lookP, allP, Act.put, List.getElem?_cons_zero, List.getElem?_cons_succ, List.setIfInBounds_toArray, List.set_cons_zero, List.set_cons_succ]
    (try dsimp only at hS')
    go_simp
    (try with_reducible rfl)
  -- 5: fieldAddr 58 t5 0
  refine' chainP_read (d := (some 12)) _ rfl rfl (fun w' hS' => ?_) ?_; rotate_left
  · simp only [lookP, allP, Act.put, List.getElem?_cons_zero, List.getElem?_cons_succ, List.setIfInBounds_toArray, List.set_cons_zero, List.set_cons_succ]
    (try dsimp only at hS')
    go_simp
    (try with_reducible rfl)
  -- 6: load 3 t12
  refine' chainP_read (d := (some 13)) _ rfl rfl (fun w' hS' => ?_) ?_; rotate_left
  · simp only [lookP, allP, Act.put, List.getElem?_cons_zero, List.getElem?_cons_succ, List.setIfInBounds_toArray, List.set_cons_zero, List.set_cons_succ]
    (try dsimp only at hS')
    go_simp
    (try with_reducible rfl)
  -- 7: move t1
  refine' chainP_read (d := (some 14)) _ rfl rfl (fun w' hS' => ?_) ?_; rotate_left
  · simp only [lookP, allP, Act.put, List.getElem?_cons_zero, List.getElem?_cons_succ, List.setIfInBounds_toArray, List.set_cons_zero, List.set_cons_succ]
    (try dsimp only at hS')
    go_simp
    (try with_reducible rfl)
  -- 8: call { callee := value (func 156), args := #[t11, t13, t14], argTypes := #[39, 3, 3] }
  refine chainP_call (d := (some 15)) (.int .i64 (powE gr c.a s0)) rfl rfl (fun w' hS' => ?_) ?_
  · simp only [lookP, allP, Act.put, List.getElem?_cons_zero, List.getElem?_cons_succ, List.setIfInBounds_toArray, List.set_cons_zero, List.set_cons_succ]
    intro K hK
    go_simp
    go_at_call 156
    refine (spec_gExp gr c.a s0 _ HG.out hcc.1 hs).mono ?_
    rintro e u ⟨rfl, hq⟩
    exact hK.out _ hq
  -- 9: call { callee := value (func 311), args := #[t10, t15], argTypes := #[39, 3] }
  refine chainP_call (d := (some 16)) (.int .i64 (powE gr (powE gr c.a s0) (-1))) rfl rfl (fun w' hS' => ?_) ?_
  · simp only [lookP, allP, Act.put, List.getElem?_cons_zero, List.getElem?_cons_succ, List.setIfInBounds_toArray, List.set_cons_zero, List.set_cons_succ]
    intro K hK
    go_simp
    go_at_call 311
    refine (spec_gInv gr (powE gr c.a s0) _ HG.out (powE_small HG.out _ _)).mono ?_
    rintro e u ⟨rfl, hq⟩
    exact hK.out _ hq
  -- 10: buildSlice 24 2 #[(0, t9), (1, t16)]
  refine chainP_do (d := (some 17)) (fun v w => Ints w v [c.b, powE gr (powE gr c.a s0) (-1)]) (fun v w w' hb h => Ints.below h hb) rfl rfl (fun w' hS' => ?_) ?_
  · simp only [lookP, allP, Act.put, List.getElem?_cons_zero, List.getElem?_cons_succ, List.setIfInBounds_toArray, List.set_cons_zero, List.set_cons_succ]
    intro K hK
    go_simp
    refine hK.out _ _ ((Below.refl _ _).alloc (Nat.le_refl _) _) ?_
    exact (OwnI.lit (B := w'.heap.size) w' (Nat.le_refl _) (l := [c.b, powE gr (powE gr c.a s0) (-1)]) (AllI64.cons (small_64 hcc.2) (AllI64.cons (small_64 (powE_small HG.out _ _)) AllI64.nil)) rfl (by simp [maxLen]) 2 rfl).ints
  -- 11: call { callee := value (func 211), args := #[t7, t17], argTypes := #[39, 24] }
  refine chainP_call (d := (some 18)) (.int .i64 (mulL gr [c.b, powE gr (powE gr c.a s0) (-1)])) rfl rfl (fun w' hS' => ?_) ?_
  · simp only [lookP, allP, Act.put, List.getElem?_cons_zero, List.getElem?_cons_succ, List.setIfInBounds_toArray, List.set_cons_zero, List.set_cons_succ]
    intro x10 hx10
    intro K hK
    go_simp
    go_at_call 211
    refine (spec_gMul gr _ [c.b, powE gr (powE gr c.a s0) (-1)] _ HG.out hx10 (AllSmall.cons hcc.2 (AllSmall.cons (powE_small HG.out _ _) AllSmall.nil))).mono ?_
    rintro e u ⟨rfl, hq⟩
    exact hK.out _ hq
  -- 12: assign t18
  refine' chainP_read (d := (some 6)) _ rfl rfl (fun w' hS' => ?_) ?_; rotate_left
  · simp only [lookP, allP, Act.put, List.getElem?_cons_zero, List.getElem?_cons_succ, List.setIfInBounds_toArray, List.set_cons_zero, List.set_cons_succ]
    (try dsimp only at hS')
    go_simp
    (try with_reducible rfl)
  refine chainP_nil (fun u1 hS' => ?_)
  simp only [allP, Act.put, List.setIfInBounds_toArray, List.set_cons_zero, List.set_cons_succ]
  intro x10 hx10
  have hq1 := hS'.1
  clear hS'
  replace hc := Below.next hc hq1
  replace c0_0 := box_at c0_0 hq1
  replace c0_1 := box_at c0_1 hq1
  replace c0_2 := box_at c0_2 hq1
  replace c1_0 := box_at c1_0 hq1
  replace c1_1 := box_at c1_1 hq1
  clear hq1
  go_wp2_with fail
  refine NoPanic.normal ?_
  go_wp2_with fail
  go_ret
  exact ⟨rfl, HB.out.trans (hc.mono HB.out.size)⟩
set_option maxRecDepth 100000 in
set_option maxHeartbeats 2000000 in
theorem impl_DecryptElement (gr : GroupD) (s0 : Int) (c : CipherD) (w : World) (jc : SmallCI c) (hs : I64 s0) :
    Calls Try.prog 42 #[.agg #[.int .i64 gr.p, .int .i64 gr.q, .int .i64 gr.g], .int .i64 s0, .agg #[.int .i64 c.a, .int .i64 c.b]] w fun e w' => e = .returned (.tuple #[.int .i64 (deR gr s0 c), .bool (deB gr s0 c)]) ∧ Below w.heap.size w w' := by
  cases hc1 : goodG gr with
  | false =>
    have HV : Hid ((.tuple #[.int .i64 (deR gr s0 c), .bool (deB gr s0 c)] : Value) = .tuple #[.int .i64 0, .bool false]) := by unfold Hid; simp [deR, deB, hc1]
    rw [HV.out]
    have Hhc1 := Lib.hid hc1
    clear hc1
    obtain ⟨W, hW⟩ : ∃ W, W = (w.alloc (.cells #[.int .i64 gr.p, .int .i64 gr.q, .int .i64 gr.g] 39)).alloc (.cells #[.int .i64 c.a, .int .i64 c.b] 58) := ⟨_, rfl⟩
    have HB : Hid (Below w.heap.size w W) := by unfold Hid; rw [hW]; (repeat (first | exact Below.refl _ _ | assumption | refine Below.drew ?_ | refine Below.alloc ?_ (by first | (simp; done) | (simp; omega)) _ | refine Below.setCell ?_ (by first | (simp; done) | (simp; omega)) _))
    have c0_0 : W.cell? ⟨w.heap.size, 0, none⟩ = some (.int .i64 gr.p) := by rw [hW]; simp [go_sem]
    have c0_1 : W.cell? ⟨w.heap.size, 1, none⟩ = some (.int .i64 gr.q) := by rw [hW]; simp [go_sem]
    have c0_2 : W.cell? ⟨w.heap.size, 2, none⟩ = some (.int .i64 gr.g) := by rw [hW]; simp [go_sem]
    have c1_0 : W.cell? ⟨w.heap.size + 1, 0, none⟩ = some (.int .i64 c.a) := by rw [hW]; simp [go_sem]
    have c1_1 : W.cell? ⟨w.heap.size + 1, 1, none⟩ = some (.int .i64 c.b) := by rw [hW]; simp [go_sem]
    have HSW : Hid (W.heap.size = w.heap.size + 2) := by unfold Hid; rw [hW]; simp
    go_enter Try.func42, Try.ntmps42
    go_wp2_with fail
    rw [← hW]
    clear hW
    have hc : Below W.heap.size W W := Below.refl _ _
    go_wp2_with fail
    refine (impl_IsValidGroup gr _).mono ?_
    rintro e u1 ⟨rfl, hq1⟩
    replace hc := Below.next hc hq1
    replace c0_0 := box_at c0_0 hq1
    replace c0_1 := box_at c0_1 hq1
    replace c0_2 := box_at c0_2 hq1
    replace c1_0 := box_at c1_0 hq1
    replace c1_1 := box_at c1_1 hq1
    clear hq1
    rw [Hhc1.out]
    go_wp2_with fail
    go_ret2
    exact ⟨rfl, HB.out.trans (hc.mono HB.out.size)⟩
  | true =>
    have HG := Lib.hid (goodG_ok hc1)
    cases hc2 : expB gr s0 with
    | false =>
      have HV : Hid ((.tuple #[.int .i64 (deR gr s0 c), .bool (deB gr s0 c)] : Value) = .tuple #[.int .i64 0, .bool false]) := by unfold Hid; simp [deR, deB, hc1, hc2]
      rw [HV.out]
      have Hhc1 := Lib.hid hc1
      clear hc1
      have Hhc2 := Lib.hid hc2
      clear hc2
      obtain ⟨W, hW⟩ : ∃ W, W = (w.alloc (.cells #[.int .i64 gr.p, .int .i64 gr.q, .int .i64 gr.g] 39)).alloc (.cells #[.int .i64 c.a, .int .i64 c.b] 58) := ⟨_, rfl⟩
      have HB : Hid (Below w.heap.size w W) := by unfold Hid; rw [hW]; (repeat (first | exact Below.refl _ _ | assumption | refine Below.drew ?_ | refine Below.alloc ?_ (by first | (simp; done) | (simp; omega)) _ | refine Below.setCell ?_ (by first | (simp; done) | (simp; omega)) _))
      have c0_0 : W.cell? ⟨w.heap.size, 0, none⟩ = some (.int .i64 gr.p) := by rw [hW]; simp [go_sem]
      have c0_1 : W.cell? ⟨w.heap.size, 1, none⟩ = some (.int .i64 gr.q) := by rw [hW]; simp [go_sem]
      have c0_2 : W.cell? ⟨w.heap.size, 2, none⟩ = some (.int .i64 gr.g) := by rw [hW]; simp [go_sem]
      have c1_0 : W.cell? ⟨w.heap.size + 1, 0, none⟩ = some (.int .i64 c.a) := by rw [hW]; simp [go_sem]
      have c1_1 : W.cell? ⟨w.heap.size + 1, 1, none⟩ = some (.int .i64 c.b) := by rw [hW]; simp [go_sem]
      have HSW : Hid (W.heap.size = w.heap.size + 2) := by unfold Hid; rw [hW]; simp
      go_enter Try.func42, Try.ntmps42
      go_wp2_with fail
      rw [← hW]
      clear hW
      have hc : Below W.heap.size W W := Below.refl _ _
      go_wp2_with fail
      refine (impl_IsValidGroup gr _).mono ?_
      rintro e u1 ⟨rfl, hq1⟩
      replace hc := Below.next hc hq1
      replace c0_0 := box_at c0_0 hq1
      replace c0_1 := box_at c0_1 hq1
      replace c0_2 := box_at c0_2 hq1
      replace c1_0 := box_at c1_0 hq1
      replace c1_1 := box_at c1_1 hq1
      clear hq1
      rw [Hhc1.out]
      go_wp2_with fail
      refine (impl_isExp gr s0 _ HG.out).mono ?_
      rintro e u2 ⟨rfl, hq2⟩
      replace hc := Below.next hc hq2
      replace c0_0 := box_at c0_0 hq2
      replace c0_1 := box_at c0_1 hq2
      replace c0_2 := box_at c0_2 hq2
      replace c1_0 := box_at c1_0 hq2
      replace c1_1 := box_at c1_1 hq2
      clear hq2
      rw [Hhc2.out]
      go_wp2_with fail
      go_ret2
      exact ⟨rfl, HB.out.trans (hc.mono HB.out.size)⟩
    | true =>
      cases hc3 : ciB gr c with
      | false =>
        have HV : Hid ((.tuple #[.int .i64 (deR gr s0 c), .bool (deB gr s0 c)] : Value) = .tuple #[.int .i64 0, .bool false]) := by unfold Hid; simp [deR, deB, hc1, hc2, hc3]
        rw [HV.out]
        have Hhc1 := Lib.hid hc1
        clear hc1
        have Hhc2 := Lib.hid hc2
        clear hc2
        have Hhc3 := Lib.hid hc3
        clear hc3
        obtain ⟨W, hW⟩ : ∃ W, W = (w.alloc (.cells #[.int .i64 gr.p, .int .i64 gr.q, .int .i64 gr.g] 39)).alloc (.cells #[.int .i64 c.a, .int .i64 c.b] 58) := ⟨_, rfl⟩
        have HB : Hid (Below w.heap.size w W) := by unfold Hid; rw [hW]; (repeat (first | exact Below.refl _ _ | assumption | refine Below.drew ?_ | refine Below.alloc ?_ (by first | (simp; done) | (simp; omega)) _ | refine Below.setCell ?_ (by first | (simp; done) | (simp; omega)) _))
        have c0_0 : W.cell? ⟨w.heap.size, 0, none⟩ = some (.int .i64 gr.p) := by rw [hW]; simp [go_sem]
        have c0_1 : W.cell? ⟨w.heap.size, 1, none⟩ = some (.int .i64 gr.q) := by rw [hW]; simp [go_sem]
        have c0_2 : W.cell? ⟨w.heap.size, 2, none⟩ = some (.int .i64 gr.g) := by rw [hW]; simp [go_sem]
        have c1_0 : W.cell? ⟨w.heap.size + 1, 0, none⟩ = some (.int .i64 c.a) := by rw [hW]; simp [go_sem]
        have c1_1 : W.cell? ⟨w.heap.size + 1, 1, none⟩ = some (.int .i64 c.b) := by rw [hW]; simp [go_sem]
        have HSW : Hid (W.heap.size = w.heap.size + 2) := by unfold Hid; rw [hW]; simp
        go_enter Try.func42, Try.ntmps42
        go_wp2_with fail
        rw [← hW]
        clear hW
        have hc : Below W.heap.size W W := Below.refl _ _
        go_wp2_with fail
        refine (impl_IsValidGroup gr _).mono ?_
        rintro e u1 ⟨rfl, hq1⟩
        replace hc := Below.next hc hq1
        replace c0_0 := box_at c0_0 hq1
        replace c0_1 := box_at c0_1 hq1
        replace c0_2 := box_at c0_2 hq1
        replace c1_0 := box_at c1_0 hq1
        replace c1_1 := box_at c1_1 hq1
        clear hq1
        rw [Hhc1.out]
        go_wp2_with fail
        refine (impl_isExp gr s0 _ HG.out).mono ?_
        rintro e u2 ⟨rfl, hq2⟩
        replace hc := Below.next hc hq2
        replace c0_0 := box_at c0_0 hq2
        replace c0_1 := box_at c0_1 hq2
        replace c0_2 := box_at c0_2 hq2
        replace c1_0 := box_at c1_0 hq2
        replace c1_1 := box_at c1_1 hq2
        clear hq2
        rw [Hhc2.out]
        go_wp2_with fail
        refine (impl_hasCipher gr c _ HG.out).mono ?_
        rintro e u3 ⟨rfl, hq3⟩
        replace hc := Below.next hc hq3
        replace c0_0 := box_at c0_0 hq3
        replace c0_1 := box_at c0_1 hq3
        replace c0_2 := box_at c0_2 hq3
        replace c1_0 := box_at c1_0 hq3
        replace c1_1 := box_at c1_1 hq3
        clear hq3
        rw [Hhc3.out]
        go_wp2_with fail
        go_ret2
        exact ⟨rfl, HB.out.trans (hc.mono HB.out.size)⟩
      | true =>
        have Hc := Lib.hid hc3
        have HV : Hid ((.tuple #[.int .i64 (deR gr s0 c), .bool (deB gr s0 c)] : Value) = .tuple #[.int .i64 (deC gr s0 c), .bool true]) := by unfold Hid; simp [deR, deB, hc1, hc2, hc3]
        rw [HV.out]
        have Hhc1 := Lib.hid hc1
        clear hc1
        have Hhc2 := Lib.hid hc2
        clear hc2
        have Hhc3 := Lib.hid hc3
        clear hc3
        obtain ⟨W, hW⟩ : ∃ W, W = (w.alloc (.cells #[.int .i64 gr.p, .int .i64 gr.q, .int .i64 gr.g] 39)).alloc (.cells #[.int .i64 c.a, .int .i64 c.b] 58) := ⟨_, rfl⟩
        have HB : Hid (Below w.heap.size w W) := by unfold Hid; rw [hW]; (repeat (first | exact Below.refl _ _ | assumption | refine Below.drew ?_ | refine Below.alloc ?_ (by first | (simp; done) | (simp; omega)) _ | refine Below.setCell ?_ (by first | (simp; done) | (simp; omega)) _))
        have c0_0 : W.cell? ⟨w.heap.size, 0, none⟩ = some (.int .i64 gr.p) := by rw [hW]; simp [go_sem]
        have c0_1 : W.cell? ⟨w.heap.size, 1, none⟩ = some (.int .i64 gr.q) := by rw [hW]; simp [go_sem]
        have c0_2 : W.cell? ⟨w.heap.size, 2, none⟩ = some (.int .i64 gr.g) := by rw [hW]; simp [go_sem]
        have c1_0 : W.cell? ⟨w.heap.size + 1, 0, none⟩ = some (.int .i64 c.a) := by rw [hW]; simp [go_sem]
        have c1_1 : W.cell? ⟨w.heap.size + 1, 1, none⟩ = some (.int .i64 c.b) := by rw [hW]; simp [go_sem]
        have HSW : Hid (W.heap.size = w.heap.size + 2) := by unfold Hid; rw [hW]; simp
        go_enter Try.func42, Try.ntmps42
        go_wp2_with fail
        rw [← hW]
        clear hW
        have hc : Below W.heap.size W W := Below.refl _ _
        go_wp2_with fail
        refine (impl_IsValidGroup gr _).mono ?_
        rintro e u1 ⟨rfl, hq1⟩
        replace hc := Below.next hc hq1
        replace c0_0 := box_at c0_0 hq1
        replace c0_1 := box_at c0_1 hq1
        replace c0_2 := box_at c0_2 hq1
        replace c1_0 := box_at c1_0 hq1
        replace c1_1 := box_at c1_1 hq1
        clear hq1
        rw [Hhc1.out]
        go_wp2_with fail
        refine (impl_isExp gr s0 _ HG.out).mono ?_
        rintro e u2 ⟨rfl, hq2⟩
        replace hc := Below.next hc hq2
        replace c0_0 := box_at c0_0 hq2
        replace c0_1 := box_at c0_1 hq2
        replace c0_2 := box_at c0_2 hq2
        replace c1_0 := box_at c1_0 hq2
        replace c1_1 := box_at c1_1 hq2
        clear hq2
        rw [Hhc2.out]
        go_wp2_with fail
        refine (impl_hasCipher gr c _ HG.out).mono ?_
        rintro e u3 ⟨rfl, hq3⟩
        replace hc := Below.next hc hq3
        replace c0_0 := box_at c0_0 hq3
        replace c0_1 := box_at c0_1 hq3
        replace c0_2 := box_at c0_2 hq3
        replace c1_0 := box_at c1_0 hq3
        replace c1_1 := box_at c1_1 hq3
        clear hq3
        rw [Hhc3.out]
        go_wp2_with fail
        refine (impl_decrypt gr s0 c _ HG.out hs (ciB_small HG.out Hc.out)).mono ?_
        rintro e u4 ⟨rfl, hq4⟩
        replace hc := Below.next hc hq4
        replace c0_0 := box_at c0_0 hq4
        replace c0_1 := box_at c0_1 hq4
        replace c0_2 := box_at c0_2 hq4
        replace c1_0 := box_at c1_0 hq4
        replace c1_1 := box_at c1_1 hq4
        clear hq4
        go_wp2_with fail
        go_ret2
        exact ⟨rfl, HB.out.trans (hc.mono HB.out.size)⟩
set_option maxRecDepth 100000 in
set_option maxHeartbeats 2000000 in
theorem spec_DecryptElement (gr : GroupD) (s0 : Int) (c : CipherD) (w : World) (jc : SmallCI c) (hs : I64 s0) :
    Calls Try.prog 161 #[.agg #[.int .i64 gr.p, .int .i64 gr.q, .int .i64 gr.g], .int .i64 s0, .agg #[.int .i64 c.a, .int .i64 c.b]] w fun e w' => e = .returned (.tuple #[.int .i64 (deR gr s0 c), .bool (deB gr s0 c)]) ∧ Below w.heap.size w w' := by
  cases hc1 : goodG gr with
  | false =>
    have HV : Hid ((.tuple #[.int .i64 (deR gr s0 c), .bool (deB gr s0 c)] : Value) = .tuple #[.int .i64 0, .bool false]) := by unfold Hid; simp [deR, deB, hc1]
    rw [HV.out]
    have Hhc1 := Lib.hid hc1
    clear hc1
    obtain ⟨W, hW⟩ : ∃ W, W = (w.alloc (.cells #[.int .i64 gr.p, .int .i64 gr.q, .int .i64 gr.g] 39)).alloc (.cells #[.int .i64 c.a, .int .i64 c.b] 58) := ⟨_, rfl⟩
    have HB : Hid (Below w.heap.size w W) := by unfold Hid; rw [hW]; (repeat (first | exact Below.refl _ _ | assumption | refine Below.drew ?_ | refine Below.alloc ?_ (by first | (simp; done) | (simp; omega)) _ | refine Below.setCell ?_ (by first | (simp; done) | (simp; omega)) _))
    have c0_0 : W.cell? ⟨w.heap.size, 0, none⟩ = some (.int .i64 gr.p) := by rw [hW]; simp [go_sem]
    have c0_1 : W.cell? ⟨w.heap.size, 1, none⟩ = some (.int .i64 gr.q) := by rw [hW]; simp [go_sem]
    have c0_2 : W.cell? ⟨w.heap.size, 2, none⟩ = some (.int .i64 gr.g) := by rw [hW]; simp [go_sem]
    have c1_0 : W.cell? ⟨w.heap.size + 1, 0, none⟩ = some (.int .i64 c.a) := by rw [hW]; simp [go_sem]
    have c1_1 : W.cell? ⟨w.heap.size + 1, 1, none⟩ = some (.int .i64 c.b) := by rw [hW]; simp [go_sem]
    have HSW : Hid (W.heap.size = w.heap.size + 2) := by unfold Hid; rw [hW]; simp
    go_enter Try.func161, Try.ntmps161
    go_wp2_with fail
    rw [← hW]
    clear hW
    have hc : Below W.heap.size W W := Below.refl _ _
    go_wp2_with fail
    refine (spec_l2Good gr _).mono ?_
    rintro e u1 ⟨rfl, hq1⟩
    replace hc := Below.next hc hq1
    replace c0_0 := box_at c0_0 hq1
    replace c0_1 := box_at c0_1 hq1
    replace c0_2 := box_at c0_2 hq1
    replace c1_0 := box_at c1_0 hq1
    replace c1_1 := box_at c1_1 hq1
    clear hq1
    rw [Hhc1.out]
    go_wp2_with fail
    go_ret2
    exact ⟨rfl, HB.out.trans (hc.mono HB.out.size)⟩
  | true =>
    have HG := Lib.hid (goodG_ok hc1)
    cases hc2 : ciB gr c with
    | false =>
      have HV : Hid ((.tuple #[.int .i64 (deR gr s0 c), .bool (deB gr s0 c)] : Value) = .tuple #[.int .i64 0, .bool false]) := by unfold Hid; simp [deR, deB, hc1, hc2]
      rw [HV.out]
      have Hhc1 := Lib.hid hc1
      clear hc1
      have Hhc2 := Lib.hid hc2
      clear hc2
      obtain ⟨W, hW⟩ : ∃ W, W = (w.alloc (.cells #[.int .i64 gr.p, .int .i64 gr.q, .int .i64 gr.g] 39)).alloc (.cells #[.int .i64 c.a, .int .i64 c.b] 58) := ⟨_, rfl⟩
      have HB : Hid (Below w.heap.size w W) := by unfold Hid; rw [hW]; (repeat (first | exact Below.refl _ _ | assumption | refine Below.drew ?_ | refine Below.alloc ?_ (by first | (simp; done) | (simp; omega)) _ | refine Below.setCell ?_ (by first | (simp; done) | (simp; omega)) _))
      have c0_0 : W.cell? ⟨w.heap.size, 0, none⟩ = some (.int .i64 gr.p) := by rw [hW]; simp [go_sem]
      have c0_1 : W.cell? ⟨w.heap.size, 1, none⟩ = some (.int .i64 gr.q) := by rw [hW]; simp [go_sem]
      have c0_2 : W.cell? ⟨w.heap.size, 2, none⟩ = some (.int .i64 gr.g) := by rw [hW]; simp [go_sem]
      have c1_0 : W.cell? ⟨w.heap.size + 1, 0, none⟩ = some (.int .i64 c.a) := by rw [hW]; simp [go_sem]
      have c1_1 : W.cell? ⟨w.heap.size + 1, 1, none⟩ = some (.int .i64 c.b) := by rw [hW]; simp [go_sem]
      have HSW : Hid (W.heap.size = w.heap.size + 2) := by unfold Hid; rw [hW]; simp
      go_enter Try.func161, Try.ntmps161
      go_wp2_with fail
      rw [← hW]
      clear hW
      have hc : Below W.heap.size W W := Below.refl _ _
      go_wp2_with fail
      refine (spec_l2Good gr _).mono ?_
      rintro e u1 ⟨rfl, hq1⟩
      replace hc := Below.next hc hq1
      replace c0_0 := box_at c0_0 hq1
      replace c0_1 := box_at c0_1 hq1
      replace c0_2 := box_at c0_2 hq1
      replace c1_0 := box_at c1_0 hq1
      replace c1_1 := box_at c1_1 hq1
      clear hq1
      rw [Hhc1.out]
      go_wp2_with fail
      refine (eGood1 gr _ c _ HG.out (RdC.lit _ (l := [c]) (AllCI.cons jc AllCI.nil) rfl 1 rfl (by unfold maxLen; omega))).mono ?_
      rintro e u2 ⟨rfl, hq2⟩
      replace hq2 := Below.next (keep_al (Below.refl _ _) _) hq2
      replace hc := Below.next hc hq2
      replace c0_0 := box_at c0_0 hq2
      replace c0_1 := box_at c0_1 hq2
      replace c0_2 := box_at c0_2 hq2
      replace c1_0 := box_at c1_0 hq2
      replace c1_1 := box_at c1_1 hq2
      clear hq2
      rw [Hhc2.out]
      go_wp2_with fail
      go_ret2
      exact ⟨rfl, HB.out.trans (hc.mono HB.out.size)⟩
    | true =>
      have Hc := Lib.hid hc2
      cases hc3 : [s0].all (expB gr) with
      | false =>
        have HV : Hid ((.tuple #[.int .i64 (deR gr s0 c), .bool (deB gr s0 c)] : Value) = .tuple #[.int .i64 0, .bool false]) := by unfold Hid; have qhc3 := hc3; simp only [List.all_cons, List.all_nil, Bool.and_true] at qhc3; simp [deR, deB, hc1, hc2, qhc3]
        rw [HV.out]
        have Hhc1 := Lib.hid hc1
        clear hc1
        have Hhc2 := Lib.hid hc2
        clear hc2
        have Hhc3 := Lib.hid hc3
        clear hc3
        obtain ⟨W, hW⟩ : ∃ W, W = (w.alloc (.cells #[.int .i64 gr.p, .int .i64 gr.q, .int .i64 gr.g] 39)).alloc (.cells #[.int .i64 c.a, .int .i64 c.b] 58) := ⟨_, rfl⟩
        have HB : Hid (Below w.heap.size w W) := by unfold Hid; rw [hW]; (repeat (first | exact Below.refl _ _ | assumption | refine Below.drew ?_ | refine Below.alloc ?_ (by first | (simp; done) | (simp; omega)) _ | refine Below.setCell ?_ (by first | (simp; done) | (simp; omega)) _))
        have c0_0 : W.cell? ⟨w.heap.size, 0, none⟩ = some (.int .i64 gr.p) := by rw [hW]; simp [go_sem]
        have c0_1 : W.cell? ⟨w.heap.size, 1, none⟩ = some (.int .i64 gr.q) := by rw [hW]; simp [go_sem]
        have c0_2 : W.cell? ⟨w.heap.size, 2, none⟩ = some (.int .i64 gr.g) := by rw [hW]; simp [go_sem]
        have c1_0 : W.cell? ⟨w.heap.size + 1, 0, none⟩ = some (.int .i64 c.a) := by rw [hW]; simp [go_sem]
        have c1_1 : W.cell? ⟨w.heap.size + 1, 1, none⟩ = some (.int .i64 c.b) := by rw [hW]; simp [go_sem]
        have HSW : Hid (W.heap.size = w.heap.size + 2) := by unfold Hid; rw [hW]; simp
        go_enter Try.func161, Try.ntmps161
        go_wp2_with fail
        rw [← hW]
        clear hW
        have hc : Below W.heap.size W W := Below.refl _ _
        go_wp2_with fail
        refine (spec_l2Good gr _).mono ?_
        rintro e u1 ⟨rfl, hq1⟩
        replace hc := Below.next hc hq1
        replace c0_0 := box_at c0_0 hq1
        replace c0_1 := box_at c0_1 hq1
        replace c0_2 := box_at c0_2 hq1
        replace c1_0 := box_at c1_0 hq1
        replace c1_1 := box_at c1_1 hq1
        clear hq1
        rw [Hhc1.out]
        go_wp2_with fail
        refine (eGood1 gr _ c _ HG.out (RdC.lit _ (l := [c]) (AllCI.cons jc AllCI.nil) rfl 1 rfl (by unfold maxLen; omega))).mono ?_
        rintro e u2 ⟨rfl, hq2⟩
        replace hq2 := Below.next (keep_al (Below.refl _ _) _) hq2
        replace hc := Below.next hc hq2
        replace c0_0 := box_at c0_0 hq2
        replace c0_1 := box_at c0_1 hq2
        replace c0_2 := box_at c0_2 hq2
        replace c1_0 := box_at c1_0 hq2
        replace c1_1 := box_at c1_1 hq2
        clear hq2
        rw [Hhc2.out]
        go_wp2_with fail
        refine (spec_gExps gr _ [s0] _ HG.out (OwnI.lit (B := 0) _ (Nat.zero_le _) (l := [s0]) (AllI64.cons hs AllI64.nil) rfl (by simp [maxLen]) 1 rfl).ints).mono ?_
        rintro e u3 ⟨rfl, hq3⟩
        replace hq3 := Below.next (keep_al (Below.refl _ _) _) hq3
        replace hc := Below.next hc hq3
        replace c0_0 := box_at c0_0 hq3
        replace c0_1 := box_at c0_1 hq3
        replace c0_2 := box_at c0_2 hq3
        replace c1_0 := box_at c1_0 hq3
        replace c1_1 := box_at c1_1 hq3
        clear hq3
        rw [Hhc3.out]
        go_wp2_with fail
        go_ret2
        exact ⟨rfl, HB.out.trans (hc.mono HB.out.size)⟩
      | true =>
        have HV : Hid ((.tuple #[.int .i64 (deR gr s0 c), .bool (deB gr s0 c)] : Value) = .tuple #[.int .i64 (deC gr s0 c), .bool true]) := by unfold Hid; have qhc3 := hc3; simp only [List.all_cons, List.all_nil, Bool.and_true] at qhc3; simp [deR, deB, hc1, hc2, qhc3]
        rw [HV.out]
        have Hhc1 := Lib.hid hc1
        clear hc1
        have Hhc2 := Lib.hid hc2
        clear hc2
        have Hhc3 := Lib.hid hc3
        clear hc3
        obtain ⟨W, hW⟩ : ∃ W, W = (w.alloc (.cells #[.int .i64 gr.p, .int .i64 gr.q, .int .i64 gr.g] 39)).alloc (.cells #[.int .i64 c.a, .int .i64 c.b] 58) := ⟨_, rfl⟩
        have HB : Hid (Below w.heap.size w W) := by unfold Hid; rw [hW]; (repeat (first | exact Below.refl _ _ | assumption | refine Below.drew ?_ | refine Below.alloc ?_ (by first | (simp; done) | (simp; omega)) _ | refine Below.setCell ?_ (by first | (simp; done) | (simp; omega)) _))
        have c0_0 : W.cell? ⟨w.heap.size, 0, none⟩ = some (.int .i64 gr.p) := by rw [hW]; simp [go_sem]
        have c0_1 : W.cell? ⟨w.heap.size, 1, none⟩ = some (.int .i64 gr.q) := by rw [hW]; simp [go_sem]
        have c0_2 : W.cell? ⟨w.heap.size, 2, none⟩ = some (.int .i64 gr.g) := by rw [hW]; simp [go_sem]
        have c1_0 : W.cell? ⟨w.heap.size + 1, 0, none⟩ = some (.int .i64 c.a) := by rw [hW]; simp [go_sem]
        have c1_1 : W.cell? ⟨w.heap.size + 1, 1, none⟩ = some (.int .i64 c.b) := by rw [hW]; simp [go_sem]
        have HSW : Hid (W.heap.size = w.heap.size + 2) := by unfold Hid; rw [hW]; simp
        go_enter Try.func161, Try.ntmps161
        go_wp2_with fail
        rw [← hW]
        clear hW
        have hc : Below W.heap.size W W := Below.refl _ _
        go_wp2_with fail
        refine (spec_l2Good gr _).mono ?_
        rintro e u1 ⟨rfl, hq1⟩
        replace hc := Below.next hc hq1
        replace c0_0 := box_at c0_0 hq1
        replace c0_1 := box_at c0_1 hq1
        replace c0_2 := box_at c0_2 hq1
        replace c1_0 := box_at c1_0 hq1
        replace c1_1 := box_at c1_1 hq1
        clear hq1
        rw [Hhc1.out]
        go_wp2_with fail
        refine (eGood1 gr _ c _ HG.out (RdC.lit _ (l := [c]) (AllCI.cons jc AllCI.nil) rfl 1 rfl (by unfold maxLen; omega))).mono ?_
        rintro e u2 ⟨rfl, hq2⟩
        replace hq2 := Below.next (keep_al (Below.refl _ _) _) hq2
        replace hc := Below.next hc hq2
        replace c0_0 := box_at c0_0 hq2
        replace c0_1 := box_at c0_1 hq2
        replace c0_2 := box_at c0_2 hq2
        replace c1_0 := box_at c1_0 hq2
        replace c1_1 := box_at c1_1 hq2
        clear hq2
        rw [Hhc2.out]
        go_wp2_with fail
        refine (spec_gExps gr _ [s0] _ HG.out (OwnI.lit (B := 0) _ (Nat.zero_le _) (l := [s0]) (AllI64.cons hs AllI64.nil) rfl (by simp [maxLen]) 1 rfl).ints).mono ?_
        rintro e u3 ⟨rfl, hq3⟩
        replace hq3 := Below.next (keep_al (Below.refl _ _) _) hq3
        replace hc := Below.next hc hq3
        replace c0_0 := box_at c0_0 hq3
        replace c0_1 := box_at c0_1 hq3
        replace c0_2 := box_at c0_2 hq3
        replace c1_0 := box_at c1_0 hq3
        replace c1_1 := box_at c1_1 hq3
        clear hq3
        rw [Hhc3.out]
        go_wp2_with fail
        refine (spec_eDec gr s0 c _ HG.out hs (ciB_small HG.out Hc.out)).mono ?_
        rintro e u4 ⟨rfl, hq4⟩
        replace hc := Below.next hc hq4
        replace c0_0 := box_at c0_0 hq4
        replace c0_1 := box_at c0_1 hq4
        replace c0_2 := box_at c0_2 hq4
        replace c1_0 := box_at c1_0 hq4
        replace c1_1 := box_at c1_1 hq4
        clear hq4
        go_wp2_with fail
        go_ret2
        exact ⟨rfl, HB.out.trans (hc.mono HB.out.size)⟩
set_option maxRecDepth 100000 in
set_option maxHeartbeats 2000000 in
theorem impl_MulCiphers (gr : GroupD) (v : Value) (l : List CipherD) (w : World) (h : RdR rCipher w v l) :
    Calls Try.prog 45 #[.agg #[.int .i64 gr.p, .int .i64 gr.q, .int .i64 gr.g], v] w fun e w' => e = .returned (.tuple #[.agg #[.int .i64 (mcR gr l).a, .int .i64 (mcR gr l).b], .bool (mcB gr l)]) ∧ Below w.heap.size w w' := by
  obtain ⟨va, vn, vc, rfl⟩ := h.shape
  have Ev := Lib.hid h.len
  have Kv := Lib.hid h.capMax
  have Hv := Lib.hid h
  clear h
  cases hc1 : goodG gr with
  | false =>
    have HV : Hid ((.tuple #[.agg #[.int .i64 (mcR gr l).a, .int .i64 (mcR gr l).b], .bool (mcB gr l)] : Value) = .tuple #[.agg #[.int .i64 0, .int .i64 0], .bool false]) := by unfold Hid; simp [mcR, mcB, hc1]
    rw [HV.out]
    have Hhc1 := Lib.hid hc1
    clear hc1
    obtain ⟨W, hW⟩ : ∃ W, W = (w.alloc (.cells #[.int .i64 gr.p, .int .i64 gr.q, .int .i64 gr.g] 39)).alloc (.cells #[.int .i64 0, .int .i64 0] 58) := ⟨_, rfl⟩
    have HB : Hid (Below w.heap.size w W) := by unfold Hid; rw [hW]; (repeat (first | exact Below.refl _ _ | assumption | refine Below.drew ?_ | refine Below.alloc ?_ (by first | (simp; done) | (simp; omega)) _ | refine Below.setCell ?_ (by first | (simp; done) | (simp; omega)) _))
    have c0_0 : W.cell? ⟨w.heap.size, 0, none⟩ = some (.int .i64 gr.p) := by rw [hW]; simp [go_sem]
    have c0_1 : W.cell? ⟨w.heap.size, 1, none⟩ = some (.int .i64 gr.q) := by rw [hW]; simp [go_sem]
    have c0_2 : W.cell? ⟨w.heap.size, 2, none⟩ = some (.int .i64 gr.g) := by rw [hW]; simp [go_sem]
    have c1_0x : W.cell? ⟨w.heap.size + 1, 0, none⟩ = some (.int .i64 0) := by rw [hW]; simp [go_sem]
    have c1_1x : W.cell? ⟨w.heap.size + 1, 1, none⟩ = some (.int .i64 0) := by rw [hW]; simp [go_sem]
    have HR1 : Hid (BoxN W (w.heap.size + 1) 58 [.int .i64 0, .int .i64 0]) := by unfold Hid; rw [hW]; have h := (BoxN.new (w.alloc (.cells #[.int .i64 gr.p, .int .i64 gr.q, .int .i64 gr.g] 39)) [.int .i64 0, .int .i64 0] 58); simpa using h
    have HSW : Hid (W.heap.size = w.heap.size + 2) := by unfold Hid; rw [hW]; simp
    have lr1 : w.heap.size + 1 < W.heap.size := by have := HSW.out; omega
    clear c1_0x
    clear c1_1x
    go_enter Try.func45, Try.ntmps45
    go_wp2_with fail
    rw [← hW]
    clear hW
    have hc : Below W.heap.size W W := Below.refl _ _
    go_wp2_with fail
    refine (impl_IsValidGroup gr _).mono ?_
    rintro e u1 ⟨rfl, hq1⟩
    replace hc := Below.next hc hq1
    replace c0_0 := box_at c0_0 hq1
    replace c0_1 := box_at c0_1 hq1
    replace c0_2 := box_at c0_2 hq1
    clear hq1
    rw [Hhc1.out]
    have HRE1 := Lib.hid (HR1.out.below hc)
    clear HR1
    have HBE := Lib.hid (HB.out.trans (hc.mono HB.out.size))
    have r1_0 := HRE1.out.cell (i := 0) rfl
    have r1_1 := HRE1.out.cell (i := 1) rfl
    have fr1 := fun j => HRE1.out.frozen j
    go_wp2_with fail
    have HRF := Lib.hid ((HRE1.out.set 0 (.int .i64 0)).set 1 (.int .i64 0))
    have HBF := Lib.hid ((HBE.out.setCell (p := ⟨w.heap.size + 1, 0, none⟩) (by show w.heap.size ≤ w.heap.size + 1; omega) (.int .i64 0)).setCell (p := ⟨w.heap.size + 1, 1, none⟩) (by show w.heap.size ≤ w.heap.size + 1; omega) (.int .i64 0))
    clear r1_0 r1_1 fr1
    have r1_0 := HRF.out.cell (i := 0) rfl
    have r1_1 := HRF.out.cell (i := 1) rfl
    try (go_wp2_with fail)
    refine bodyPost_ret (v := .tuple #[.agg #[.int .i64 0, .int .i64 0], .bool false]) (by simp [results, Try.results45, go_sem, r1_0, r1_1]) rfl ⟨rfl, HBF.out⟩
  | true =>
    have HG := Lib.hid (goodG_ok hc1)
    cases hc2 : cisB gr l with
    | false =>
      have HV : Hid ((.tuple #[.agg #[.int .i64 (mcR gr l).a, .int .i64 (mcR gr l).b], .bool (mcB gr l)] : Value) = .tuple #[.agg #[.int .i64 0, .int .i64 0], .bool false]) := by unfold Hid; simp [mcR, mcB, hc1, hc2]
      rw [HV.out]
      have Hhc1 := Lib.hid hc1
      clear hc1
      have Hhc2 := Lib.hid hc2
      clear hc2
      obtain ⟨W, hW⟩ : ∃ W, W = (w.alloc (.cells #[.int .i64 gr.p, .int .i64 gr.q, .int .i64 gr.g] 39)).alloc (.cells #[.int .i64 0, .int .i64 0] 58) := ⟨_, rfl⟩
      have HB : Hid (Below w.heap.size w W) := by unfold Hid; rw [hW]; (repeat (first | exact Below.refl _ _ | assumption | refine Below.drew ?_ | refine Below.alloc ?_ (by first | (simp; done) | (simp; omega)) _ | refine Below.setCell ?_ (by first | (simp; done) | (simp; omega)) _))
      have c0_0 : W.cell? ⟨w.heap.size, 0, none⟩ = some (.int .i64 gr.p) := by rw [hW]; simp [go_sem]
      have c0_1 : W.cell? ⟨w.heap.size, 1, none⟩ = some (.int .i64 gr.q) := by rw [hW]; simp [go_sem]
      have c0_2 : W.cell? ⟨w.heap.size, 2, none⟩ = some (.int .i64 gr.g) := by rw [hW]; simp [go_sem]
      have c1_0x : W.cell? ⟨w.heap.size + 1, 0, none⟩ = some (.int .i64 0) := by rw [hW]; simp [go_sem]
      have c1_1x : W.cell? ⟨w.heap.size + 1, 1, none⟩ = some (.int .i64 0) := by rw [hW]; simp [go_sem]
      have HR1 : Hid (BoxN W (w.heap.size + 1) 58 [.int .i64 0, .int .i64 0]) := by unfold Hid; rw [hW]; have h := (BoxN.new (w.alloc (.cells #[.int .i64 gr.p, .int .i64 gr.q, .int .i64 gr.g] 39)) [.int .i64 0, .int .i64 0] 58); simpa using h
      have HSW : Hid (W.heap.size = w.heap.size + 2) := by unfold Hid; rw [hW]; simp
      have lr1 : w.heap.size + 1 < W.heap.size := by have := HSW.out; omega
      clear c1_0x
      clear c1_1x
      go_enter Try.func45, Try.ntmps45
      go_wp2_with fail
      rw [← hW]
      clear hW
      have hc : Below W.heap.size W W := Below.refl _ _
      go_wp2_with fail
      refine (impl_IsValidGroup gr _).mono ?_
      rintro e u1 ⟨rfl, hq1⟩
      replace hc := Below.next hc hq1
      replace c0_0 := box_at c0_0 hq1
      replace c0_1 := box_at c0_1 hq1
      replace c0_2 := box_at c0_2 hq1
      clear hq1
      rw [Hhc1.out]
      go_wp2_with fail
      refine (impl_hasCiphers gr _ l _ HG.out (Hv.out.below (HB.out.trans (hc.mono HB.out.size)))).mono ?_
      rintro e u2 ⟨rfl, hq2⟩
      replace hc := Below.next hc hq2
      replace c0_0 := box_at c0_0 hq2
      replace c0_1 := box_at c0_1 hq2
      replace c0_2 := box_at c0_2 hq2
      clear hq2
      rw [Hhc2.out]
      have HRE1 := Lib.hid (HR1.out.below hc)
      clear HR1
      have HBE := Lib.hid (HB.out.trans (hc.mono HB.out.size))
      have r1_0 := HRE1.out.cell (i := 0) rfl
      have r1_1 := HRE1.out.cell (i := 1) rfl
      have fr1 := fun j => HRE1.out.frozen j
      go_wp2_with fail
      have HRF := Lib.hid ((HRE1.out.set 0 (.int .i64 0)).set 1 (.int .i64 0))
      have HBF := Lib.hid ((HBE.out.setCell (p := ⟨w.heap.size + 1, 0, none⟩) (by show w.heap.size ≤ w.heap.size + 1; omega) (.int .i64 0)).setCell (p := ⟨w.heap.size + 1, 1, none⟩) (by show w.heap.size ≤ w.heap.size + 1; omega) (.int .i64 0))
      clear r1_0 r1_1 fr1
      have r1_0 := HRF.out.cell (i := 0) rfl
      have r1_1 := HRF.out.cell (i := 1) rfl
      try (go_wp2_with fail)
      refine bodyPost_ret (v := .tuple #[.agg #[.int .i64 0, .int .i64 0], .bool false]) (by simp [results, Try.results45, go_sem, r1_0, r1_1]) rfl ⟨rfl, HBF.out⟩
    | true =>
      have Hl := Lib.hid hc2
      have HV : Hid ((.tuple #[.agg #[.int .i64 (mcR gr l).a, .int .i64 (mcR gr l).b], .bool (mcB gr l)] : Value) = .tuple #[.agg #[.int .i64 ((eM gr l).a), .int .i64 ((eM gr l).b)], .bool true]) := by unfold Hid; simp [mcR, mcB, hc1, hc2]
      rw [HV.out]
      have Hhc1 := Lib.hid hc1
      clear hc1
      have Hhc2 := Lib.hid hc2
      clear hc2
      obtain ⟨W, hW⟩ : ∃ W, W = (w.alloc (.cells #[.int .i64 gr.p, .int .i64 gr.q, .int .i64 gr.g] 39)).alloc (.cells #[.int .i64 0, .int .i64 0] 58) := ⟨_, rfl⟩
      have HB : Hid (Below w.heap.size w W) := by unfold Hid; rw [hW]; (repeat (first | exact Below.refl _ _ | assumption | refine Below.drew ?_ | refine Below.alloc ?_ (by first | (simp; done) | (simp; omega)) _ | refine Below.setCell ?_ (by first | (simp; done) | (simp; omega)) _))
      have c0_0 : W.cell? ⟨w.heap.size, 0, none⟩ = some (.int .i64 gr.p) := by rw [hW]; simp [go_sem]
      have c0_1 : W.cell? ⟨w.heap.size, 1, none⟩ = some (.int .i64 gr.q) := by rw [hW]; simp [go_sem]
      have c0_2 : W.cell? ⟨w.heap.size, 2, none⟩ = some (.int .i64 gr.g) := by rw [hW]; simp [go_sem]
      have c1_0x : W.cell? ⟨w.heap.size + 1, 0, none⟩ = some (.int .i64 0) := by rw [hW]; simp [go_sem]
      have c1_1x : W.cell? ⟨w.heap.size + 1, 1, none⟩ = some (.int .i64 0) := by rw [hW]; simp [go_sem]
      have HR1 : Hid (BoxN W (w.heap.size + 1) 58 [.int .i64 0, .int .i64 0]) := by unfold Hid; rw [hW]; have h := (BoxN.new (w.alloc (.cells #[.int .i64 gr.p, .int .i64 gr.q, .int .i64 gr.g] 39)) [.int .i64 0, .int .i64 0] 58); simpa using h
      have HSW : Hid (W.heap.size = w.heap.size + 2) := by unfold Hid; rw [hW]; simp
      have lr1 : w.heap.size + 1 < W.heap.size := by have := HSW.out; omega
      clear c1_0x
      clear c1_1x
      go_enter Try.func45, Try.ntmps45
      go_wp2_with fail
      rw [← hW]
      clear hW
      have hc : Below W.heap.size W W := Below.refl _ _
      go_wp2_with fail
      refine (impl_IsValidGroup gr _).mono ?_
      rintro e u1 ⟨rfl, hq1⟩
      replace hc := Below.next hc hq1
      replace c0_0 := box_at c0_0 hq1
      replace c0_1 := box_at c0_1 hq1
      replace c0_2 := box_at c0_2 hq1
      clear hq1
      rw [Hhc1.out]
      go_wp2_with fail
      refine (impl_hasCiphers gr _ l _ HG.out (Hv.out.below (HB.out.trans (hc.mono HB.out.size)))).mono ?_
      rintro e u2 ⟨rfl, hq2⟩
      replace hc := Below.next hc hq2
      replace c0_0 := box_at c0_0 hq2
      replace c0_1 := box_at c0_1 hq2
      replace c0_2 := box_at c0_2 hq2
      clear hq2
      rw [Hhc2.out]
      go_wp2_with fail
      refine (impl_mulCiphers gr _ l _ HG.out (Hv.out.below (HB.out.trans (hc.mono HB.out.size))) (cisB_small HG.out Hl.out)).mono ?_
      rintro e u3 ⟨rfl, hq3⟩
      replace hc := Below.next hc hq3
      replace c0_0 := box_at c0_0 hq3
      replace c0_1 := box_at c0_1 hq3
      replace c0_2 := box_at c0_2 hq3
      clear hq3
      have HRE1 := Lib.hid (HR1.out.below hc)
      clear HR1
      have HBE := Lib.hid (HB.out.trans (hc.mono HB.out.size))
      have r1_0 := HRE1.out.cell (i := 0) rfl
      have r1_1 := HRE1.out.cell (i := 1) rfl
      have fr1 := fun j => HRE1.out.frozen j
      go_wp2_with fail
      have HRF := Lib.hid ((HRE1.out.set 0 (.int .i64 ((eM gr l).a))).set 1 (.int .i64 ((eM gr l).b)))
      have HBF := Lib.hid ((HBE.out.setCell (p := ⟨w.heap.size + 1, 0, none⟩) (by show w.heap.size ≤ w.heap.size + 1; omega) (.int .i64 ((eM gr l).a))).setCell (p := ⟨w.heap.size + 1, 1, none⟩) (by show w.heap.size ≤ w.heap.size + 1; omega) (.int .i64 ((eM gr l).b)))
      clear r1_0 r1_1 fr1
      have r1_0 := HRF.out.cell (i := 0) rfl
      have r1_1 := HRF.out.cell (i := 1) rfl
      try (go_wp2_with fail)
      refine bodyPost_ret (v := .tuple #[.agg #[.int .i64 ((eM gr l).a), .int .i64 ((eM gr l).b)], .bool true]) (by simp [results, Try.results45, go_sem, r1_0, r1_1]) rfl ⟨rfl, HBF.out⟩
set_option maxRecDepth 100000 in
set_option maxHeartbeats 2000000 in
theorem impl_WeightedProduct (gr : GroupD) (v : Value) (l : List CipherD) (v2 : Value) (es : List Int) (w : World) (h : RdR rCipher w v l) (h2 : Ints w v2 es) :
    Calls Try.prog 37 #[.agg #[.int .i64 gr.p, .int .i64 gr.q, .int .i64 gr.g], v, v2] w fun e w' => e = .returned (.tuple #[.agg #[.int .i64 (wpR gr l es).a, .int .i64 (wpR gr l es).b], .bool (wpB gr l es)]) ∧ Below w.heap.size w w' := by
  obtain ⟨va, vn, vc, rfl⟩ := h.shape
  have Ev := Lib.hid h.len
  have Kv := Lib.hid h.capMax
  have Hv := Lib.hid h
  clear h
  obtain ⟨v2a, v2n, v2c, rfl⟩ := h2.shape
  have Ev2 := Lib.hid h2.len
  have Kv2 := Lib.hid h2.capMax
  have Hv2 := Lib.hid h2
  clear h2
  cases hc1 : goodG gr with
  | false =>
    have HV : Hid ((.tuple #[.agg #[.int .i64 (wpR gr l es).a, .int .i64 (wpR gr l es).b], .bool (wpB gr l es)] : Value) = .tuple #[.agg #[.int .i64 0, .int .i64 0], .bool false]) := by unfold Hid; simp [wpR, wpB, hc1]
    rw [HV.out]
    have Hhc1 := Lib.hid hc1
    clear hc1
    obtain ⟨W, hW⟩ : ∃ W, W = (w.alloc (.cells #[.int .i64 gr.p, .int .i64 gr.q, .int .i64 gr.g] 39)).alloc (.cells #[.int .i64 0, .int .i64 0] 58) := ⟨_, rfl⟩
    have HB : Hid (Below w.heap.size w W) := by unfold Hid; rw [hW]; (repeat (first | exact Below.refl _ _ | assumption | refine Below.drew ?_ | refine Below.alloc ?_ (by first | (simp; done) | (simp; omega)) _ | refine Below.setCell ?_ (by first | (simp; done) | (simp; omega)) _))
    have c0_0 : W.cell? ⟨w.heap.size, 0, none⟩ = some (.int .i64 gr.p) := by rw [hW]; simp [go_sem]
    have c0_1 : W.cell? ⟨w.heap.size, 1, none⟩ = some (.int .i64 gr.q) := by rw [hW]; simp [go_sem]
    have c0_2 : W.cell? ⟨w.heap.size, 2, none⟩ = some (.int .i64 gr.g) := by rw [hW]; simp [go_sem]
    have c1_0x : W.cell? ⟨w.heap.size + 1, 0, none⟩ = some (.int .i64 0) := by rw [hW]; simp [go_sem]
    have c1_1x : W.cell? ⟨w.heap.size + 1, 1, none⟩ = some (.int .i64 0) := by rw [hW]; simp [go_sem]
    have HR1 : Hid (BoxN W (w.heap.size + 1) 58 [.int .i64 0, .int .i64 0]) := by unfold Hid; rw [hW]; have h := (BoxN.new (w.alloc (.cells #[.int .i64 gr.p, .int .i64 gr.q, .int .i64 gr.g] 39)) [.int .i64 0, .int .i64 0] 58); simpa using h
    have HSW : Hid (W.heap.size = w.heap.size + 2) := by unfold Hid; rw [hW]; simp
    have lr1 : w.heap.size + 1 < W.heap.size := by have := HSW.out; omega
    clear c1_0x
    clear c1_1x
    go_enter Try.func37, Try.ntmps37
    go_wp2_with fail
    rw [← hW]
    clear hW
    have hc : Below W.heap.size W W := Below.refl _ _
    go_wp2_with fail
    refine (impl_IsValidGroup gr _).mono ?_
    rintro e u1 ⟨rfl, hq1⟩
    replace hc := Below.next hc hq1
    replace c0_0 := box_at c0_0 hq1
    replace c0_1 := box_at c0_1 hq1
    replace c0_2 := box_at c0_2 hq1
    clear hq1
    rw [Hhc1.out]
    have HRE1 := Lib.hid (HR1.out.below hc)
    clear HR1
    have HBE := Lib.hid (HB.out.trans (hc.mono HB.out.size))
    have r1_0 := HRE1.out.cell (i := 0) rfl
    have r1_1 := HRE1.out.cell (i := 1) rfl
    have fr1 := fun j => HRE1.out.frozen j
    go_wp2_with fail
    have HRF := Lib.hid ((HRE1.out.set 0 (.int .i64 0)).set 1 (.int .i64 0))
    have HBF := Lib.hid ((HBE.out.setCell (p := ⟨w.heap.size + 1, 0, none⟩) (by show w.heap.size ≤ w.heap.size + 1; omega) (.int .i64 0)).setCell (p := ⟨w.heap.size + 1, 1, none⟩) (by show w.heap.size ≤ w.heap.size + 1; omega) (.int .i64 0))
    clear r1_0 r1_1 fr1
    have r1_0 := HRF.out.cell (i := 0) rfl
    have r1_1 := HRF.out.cell (i := 1) rfl
    try (go_wp2_with fail)
    refine bodyPost_ret (v := .tuple #[.agg #[.int .i64 0, .int .i64 0], .bool false]) (by simp [results, Try.results37, go_sem, r1_0, r1_1]) rfl ⟨rfl, HBF.out⟩
  | true =>
    have HG := Lib.hid (goodG_ok hc1)
    cases hc2 : cisB gr l with
    | false =>
      have HV : Hid ((.tuple #[.agg #[.int .i64 (wpR gr l es).a, .int .i64 (wpR gr l es).b], .bool (wpB gr l es)] : Value) = .tuple #[.agg #[.int .i64 0, .int .i64 0], .bool false]) := by unfold Hid; simp [wpR, wpB, hc1, hc2]
      rw [HV.out]
      have Hhc1 := Lib.hid hc1
      clear hc1
      have Hhc2 := Lib.hid hc2
      clear hc2
      obtain ⟨W, hW⟩ : ∃ W, W = (w.alloc (.cells #[.int .i64 gr.p, .int .i64 gr.q, .int .i64 gr.g] 39)).alloc (.cells #[.int .i64 0, .int .i64 0] 58) := ⟨_, rfl⟩
      have HB : Hid (Below w.heap.size w W) := by unfold Hid; rw [hW]; (repeat (first | exact Below.refl _ _ | assumption | refine Below.drew ?_ | refine Below.alloc ?_ (by first | (simp; done) | (simp; omega)) _ | refine Below.setCell ?_ (by first | (simp; done) | (simp; omega)) _))
      have c0_0 : W.cell? ⟨w.heap.size, 0, none⟩ = some (.int .i64 gr.p) := by rw [hW]; simp [go_sem]
      have c0_1 : W.cell? ⟨w.heap.size, 1, none⟩ = some (.int .i64 gr.q) := by rw [hW]; simp [go_sem]
      have c0_2 : W.cell? ⟨w.heap.size, 2, none⟩ = some (.int .i64 gr.g) := by rw [hW]; simp [go_sem]
      have c1_0x : W.cell? ⟨w.heap.size + 1, 0, none⟩ = some (.int .i64 0) := by rw [hW]; simp [go_sem]
      have c1_1x : W.cell? ⟨w.heap.size + 1, 1, none⟩ = some (.int .i64 0) := by rw [hW]; simp [go_sem]
      have HR1 : Hid (BoxN W (w.heap.size + 1) 58 [.int .i64 0, .int .i64 0]) := by unfold Hid; rw [hW]; have h := (BoxN.new (w.alloc (.cells #[.int .i64 gr.p, .int .i64 gr.q, .int .i64 gr.g] 39)) [.int .i64 0, .int .i64 0] 58); simpa using h
      have HSW : Hid (W.heap.size = w.heap.size + 2) := by unfold Hid; rw [hW]; simp
      have lr1 : w.heap.size + 1 < W.heap.size := by have := HSW.out; omega
      clear c1_0x
      clear c1_1x
      go_enter Try.func37, Try.ntmps37
      go_wp2_with fail
      rw [← hW]
      clear hW
      have hc : Below W.heap.size W W := Below.refl _ _
      go_wp2_with fail
      refine (impl_IsValidGroup gr _).mono ?_
      rintro e u1 ⟨rfl, hq1⟩
      replace hc := Below.next hc hq1
      replace c0_0 := box_at c0_0 hq1
      replace c0_1 := box_at c0_1 hq1
      replace c0_2 := box_at c0_2 hq1
      clear hq1
      rw [Hhc1.out]
      go_wp2_with fail
      refine (impl_hasCiphers gr _ l _ HG.out (Hv.out.below (HB.out.trans (hc.mono HB.out.size)))).mono ?_
      rintro e u2 ⟨rfl, hq2⟩
      replace hc := Below.next hc hq2
      replace c0_0 := box_at c0_0 hq2
      replace c0_1 := box_at c0_1 hq2
      replace c0_2 := box_at c0_2 hq2
      clear hq2
      rw [Hhc2.out]
      have HRE1 := Lib.hid (HR1.out.below hc)
      clear HR1
      have HBE := Lib.hid (HB.out.trans (hc.mono HB.out.size))
      have r1_0 := HRE1.out.cell (i := 0) rfl
      have r1_1 := HRE1.out.cell (i := 1) rfl
      have fr1 := fun j => HRE1.out.frozen j
      go_wp2_with fail
      have HRF := Lib.hid ((HRE1.out.set 0 (.int .i64 0)).set 1 (.int .i64 0))
      have HBF := Lib.hid ((HBE.out.setCell (p := ⟨w.heap.size + 1, 0, none⟩) (by show w.heap.size ≤ w.heap.size + 1; omega) (.int .i64 0)).setCell (p := ⟨w.heap.size + 1, 1, none⟩) (by show w.heap.size ≤ w.heap.size + 1; omega) (.int .i64 0))
      clear r1_0 r1_1 fr1
      have r1_0 := HRF.out.cell (i := 0) rfl
      have r1_1 := HRF.out.cell (i := 1) rfl
      try (go_wp2_with fail)
      refine bodyPost_ret (v := .tuple #[.agg #[.int .i64 0, .int .i64 0], .bool false]) (by simp [results, Try.results37, go_sem, r1_0, r1_1]) rfl ⟨rfl, HBF.out⟩
    | true =>
      have Hl := Lib.hid hc2
      cases hc3 : ((v2n : Int) != (vn : Int)) with
      | false =>
        have HLN : Hid (decide (es.length = l.length) = true) := by have e1 := Ev.out; have e2 := Ev2.out; have q : (v2n : Int) = vn := (by simpa using hc3); exact decide_eq_true (by omega)
        cases hc4 : es.all (expB gr) with
        | false =>
          have HV : Hid ((.tuple #[.agg #[.int .i64 (wpR gr l es).a, .int .i64 (wpR gr l es).b], .bool (wpB gr l es)] : Value) = .tuple #[.agg #[.int .i64 0, .int .i64 0], .bool false]) := by unfold Hid; simp [wpR, wpB, hc1, hc2, hc3, hc4, HLN.out]
          rw [HV.out]
          have Hhc1 := Lib.hid hc1
          clear hc1
          have Hhc2 := Lib.hid hc2
          clear hc2
          have Hhc4 := Lib.hid hc4
          clear hc4
          obtain ⟨W, hW⟩ : ∃ W, W = (w.alloc (.cells #[.int .i64 gr.p, .int .i64 gr.q, .int .i64 gr.g] 39)).alloc (.cells #[.int .i64 0, .int .i64 0] 58) := ⟨_, rfl⟩
          have HB : Hid (Below w.heap.size w W) := by unfold Hid; rw [hW]; (repeat (first | exact Below.refl _ _ | assumption | refine Below.drew ?_ | refine Below.alloc ?_ (by first | (simp; done) | (simp; omega)) _ | refine Below.setCell ?_ (by first | (simp; done) | (simp; omega)) _))
          have c0_0 : W.cell? ⟨w.heap.size, 0, none⟩ = some (.int .i64 gr.p) := by rw [hW]; simp [go_sem]
          have c0_1 : W.cell? ⟨w.heap.size, 1, none⟩ = some (.int .i64 gr.q) := by rw [hW]; simp [go_sem]
          have c0_2 : W.cell? ⟨w.heap.size, 2, none⟩ = some (.int .i64 gr.g) := by rw [hW]; simp [go_sem]
          have c1_0x : W.cell? ⟨w.heap.size + 1, 0, none⟩ = some (.int .i64 0) := by rw [hW]; simp [go_sem]
          have c1_1x : W.cell? ⟨w.heap.size + 1, 1, none⟩ = some (.int .i64 0) := by rw [hW]; simp [go_sem]
          have HR1 : Hid (BoxN W (w.heap.size + 1) 58 [.int .i64 0, .int .i64 0]) := by unfold Hid; rw [hW]; have h := (BoxN.new (w.alloc (.cells #[.int .i64 gr.p, .int .i64 gr.q, .int .i64 gr.g] 39)) [.int .i64 0, .int .i64 0] 58); simpa using h
          have HSW : Hid (W.heap.size = w.heap.size + 2) := by unfold Hid; rw [hW]; simp
          have lr1 : w.heap.size + 1 < W.heap.size := by have := HSW.out; omega
          clear c1_0x
          clear c1_1x
          go_enter Try.func37, Try.ntmps37
          go_wp2_with fail
          rw [← hW]
          clear hW
          have hc : Below W.heap.size W W := Below.refl _ _
          go_wp2_with fail
          refine (impl_IsValidGroup gr _).mono ?_
          rintro e u1 ⟨rfl, hq1⟩
          replace hc := Below.next hc hq1
          replace c0_0 := box_at c0_0 hq1
          replace c0_1 := box_at c0_1 hq1
          replace c0_2 := box_at c0_2 hq1
          clear hq1
          rw [Hhc1.out]
          go_wp2_with fail
          refine (impl_hasCiphers gr _ l _ HG.out (Hv.out.below (HB.out.trans (hc.mono HB.out.size)))).mono ?_
          rintro e u2 ⟨rfl, hq2⟩
          replace hc := Below.next hc hq2
          replace c0_0 := box_at c0_0 hq2
          replace c0_1 := box_at c0_1 hq2
          replace c0_2 := box_at c0_2 hq2
          clear hq2
          rw [Hhc2.out]
          go_wp2_with fail
          refine (impl_areExps gr _ es _ HG.out (Hv2.out.below (HB.out.trans (hc.mono HB.out.size)))).mono ?_
          rintro e u3 ⟨rfl, hq3⟩
          replace hc := Below.next hc hq3
          replace c0_0 := box_at c0_0 hq3
          replace c0_1 := box_at c0_1 hq3
          replace c0_2 := box_at c0_2 hq3
          clear hq3
          rw [Hhc4.out]
          have HRE1 := Lib.hid (HR1.out.below hc)
          clear HR1
          have HBE := Lib.hid (HB.out.trans (hc.mono HB.out.size))
          have r1_0 := HRE1.out.cell (i := 0) rfl
          have r1_1 := HRE1.out.cell (i := 1) rfl
          have fr1 := fun j => HRE1.out.frozen j
          go_wp2_with fail
          have HRF := Lib.hid ((HRE1.out.set 0 (.int .i64 0)).set 1 (.int .i64 0))
          have HBF := Lib.hid ((HBE.out.setCell (p := ⟨w.heap.size + 1, 0, none⟩) (by show w.heap.size ≤ w.heap.size + 1; omega) (.int .i64 0)).setCell (p := ⟨w.heap.size + 1, 1, none⟩) (by show w.heap.size ≤ w.heap.size + 1; omega) (.int .i64 0))
          clear r1_0 r1_1 fr1
          have r1_0 := HRF.out.cell (i := 0) rfl
          have r1_1 := HRF.out.cell (i := 1) rfl
          try (go_wp2_with fail)
          refine bodyPost_ret (v := .tuple #[.agg #[.int .i64 0, .int .i64 0], .bool false]) (by simp [results, Try.results37, go_sem, r1_0, r1_1]) rfl ⟨rfl, HBF.out⟩
        | true =>
          have HV : Hid ((.tuple #[.agg #[.int .i64 (wpR gr l es).a, .int .i64 (wpR gr l es).b], .bool (wpB gr l es)] : Value) = .tuple #[.agg #[.int .i64 ((wC gr l es).a), .int .i64 ((wC gr l es).b)], .bool true]) := by unfold Hid; simp [wpR, wpB, hc1, hc2, hc3, hc4, HLN.out]
          rw [HV.out]
          have Hhc1 := Lib.hid hc1
          clear hc1
          have Hhc2 := Lib.hid hc2
          clear hc2
          have Hhc4 := Lib.hid hc4
          clear hc4
          obtain ⟨W, hW⟩ : ∃ W, W = (w.alloc (.cells #[.int .i64 gr.p, .int .i64 gr.q, .int .i64 gr.g] 39)).alloc (.cells #[.int .i64 0, .int .i64 0] 58) := ⟨_, rfl⟩
          have HB : Hid (Below w.heap.size w W) := by unfold Hid; rw [hW]; (repeat (first | exact Below.refl _ _ | assumption | refine Below.drew ?_ | refine Below.alloc ?_ (by first | (simp; done) | (simp; omega)) _ | refine Below.setCell ?_ (by first | (simp; done) | (simp; omega)) _))
          have c0_0 : W.cell? ⟨w.heap.size, 0, none⟩ = some (.int .i64 gr.p) := by rw [hW]; simp [go_sem]
          have c0_1 : W.cell? ⟨w.heap.size, 1, none⟩ = some (.int .i64 gr.q) := by rw [hW]; simp [go_sem]
          have c0_2 : W.cell? ⟨w.heap.size, 2, none⟩ = some (.int .i64 gr.g) := by rw [hW]; simp [go_sem]
          have c1_0x : W.cell? ⟨w.heap.size + 1, 0, none⟩ = some (.int .i64 0) := by rw [hW]; simp [go_sem]
          have c1_1x : W.cell? ⟨w.heap.size + 1, 1, none⟩ = some (.int .i64 0) := by rw [hW]; simp [go_sem]
          have HR1 : Hid (BoxN W (w.heap.size + 1) 58 [.int .i64 0, .int .i64 0]) := by unfold Hid; rw [hW]; have h := (BoxN.new (w.alloc (.cells #[.int .i64 gr.p, .int .i64 gr.q, .int .i64 gr.g] 39)) [.int .i64 0, .int .i64 0] 58); simpa using h
          have HSW : Hid (W.heap.size = w.heap.size + 2) := by unfold Hid; rw [hW]; simp
          have lr1 : w.heap.size + 1 < W.heap.size := by have := HSW.out; omega
          clear c1_0x
          clear c1_1x
          go_enter Try.func37, Try.ntmps37
          go_wp2_with fail
          rw [← hW]
          clear hW
          have hc : Below W.heap.size W W := Below.refl _ _
          go_wp2_with fail
          refine (impl_IsValidGroup gr _).mono ?_
          rintro e u1 ⟨rfl, hq1⟩
          replace hc := Below.next hc hq1
          replace c0_0 := box_at c0_0 hq1
          replace c0_1 := box_at c0_1 hq1
          replace c0_2 := box_at c0_2 hq1
          clear hq1
          rw [Hhc1.out]
          go_wp2_with fail
          refine (impl_hasCiphers gr _ l _ HG.out (Hv.out.below (HB.out.trans (hc.mono HB.out.size)))).mono ?_
          rintro e u2 ⟨rfl, hq2⟩
          replace hc := Below.next hc hq2
          replace c0_0 := box_at c0_0 hq2
          replace c0_1 := box_at c0_1 hq2
          replace c0_2 := box_at c0_2 hq2
          clear hq2
          rw [Hhc2.out]
          go_wp2_with fail
          refine (impl_areExps gr _ es _ HG.out (Hv2.out.below (HB.out.trans (hc.mono HB.out.size)))).mono ?_
          rintro e u3 ⟨rfl, hq3⟩
          replace hc := Below.next hc hq3
          replace c0_0 := box_at c0_0 hq3
          replace c0_1 := box_at c0_1 hq3
          replace c0_2 := box_at c0_2 hq3
          clear hq3
          rw [Hhc4.out]
          go_wp2_with fail
          refine (impl_weighted gr _ l _ es _ HG.out (Hv.out.below (HB.out.trans (hc.mono HB.out.size))) (cisB_small HG.out Hl.out) (Hv2.out.below (HB.out.trans (hc.mono HB.out.size))) (by have e1 := Ev.out; have e2 := Ev2.out; have := of_decide_eq_true HLN.out; omega)).mono ?_
          rintro e u4 ⟨rfl, hq4⟩
          replace hc := Below.next hc hq4
          replace c0_0 := box_at c0_0 hq4
          replace c0_1 := box_at c0_1 hq4
          replace c0_2 := box_at c0_2 hq4
          clear hq4
          have HRE1 := Lib.hid (HR1.out.below hc)
          clear HR1
          have HBE := Lib.hid (HB.out.trans (hc.mono HB.out.size))
          have r1_0 := HRE1.out.cell (i := 0) rfl
          have r1_1 := HRE1.out.cell (i := 1) rfl
          have fr1 := fun j => HRE1.out.frozen j
          go_wp2_with fail
          have HRF := Lib.hid ((HRE1.out.set 0 (.int .i64 ((wC gr l es).a))).set 1 (.int .i64 ((wC gr l es).b)))
          have HBF := Lib.hid ((HBE.out.setCell (p := ⟨w.heap.size + 1, 0, none⟩) (by show w.heap.size ≤ w.heap.size + 1; omega) (.int .i64 ((wC gr l es).a))).setCell (p := ⟨w.heap.size + 1, 1, none⟩) (by show w.heap.size ≤ w.heap.size + 1; omega) (.int .i64 ((wC gr l es).b)))
          clear r1_0 r1_1 fr1
          have r1_0 := HRF.out.cell (i := 0) rfl
          have r1_1 := HRF.out.cell (i := 1) rfl
          try (go_wp2_with fail)
          refine bodyPost_ret (v := .tuple #[.agg #[.int .i64 ((wC gr l es).a), .int .i64 ((wC gr l es).b)], .bool true]) (by simp [results, Try.results37, go_sem, r1_0, r1_1]) rfl ⟨rfl, HBF.out⟩
      | true =>
        have HLN : Hid (decide (es.length = l.length) = false) := by have e1 := Ev.out; have e2 := Ev2.out; have q : (v2n : Int) ≠ vn := (by simpa using hc3); exact decide_eq_false (by omega)
        have HV : Hid ((.tuple #[.agg #[.int .i64 (wpR gr l es).a, .int .i64 (wpR gr l es).b], .bool (wpB gr l es)] : Value) = .tuple #[.agg #[.int .i64 0, .int .i64 0], .bool false]) := by unfold Hid; simp [wpR, wpB, hc1, hc2, hc3, HLN.out]
        rw [HV.out]
        have Hhc1 := Lib.hid hc1
        clear hc1
        have Hhc2 := Lib.hid hc2
        clear hc2
        obtain ⟨W, hW⟩ : ∃ W, W = (w.alloc (.cells #[.int .i64 gr.p, .int .i64 gr.q, .int .i64 gr.g] 39)).alloc (.cells #[.int .i64 0, .int .i64 0] 58) := ⟨_, rfl⟩
        have HB : Hid (Below w.heap.size w W) := by unfold Hid; rw [hW]; (repeat (first | exact Below.refl _ _ | assumption | refine Below.drew ?_ | refine Below.alloc ?_ (by first | (simp; done) | (simp; omega)) _ | refine Below.setCell ?_ (by first | (simp; done) | (simp; omega)) _))
        have c0_0 : W.cell? ⟨w.heap.size, 0, none⟩ = some (.int .i64 gr.p) := by rw [hW]; simp [go_sem]
        have c0_1 : W.cell? ⟨w.heap.size, 1, none⟩ = some (.int .i64 gr.q) := by rw [hW]; simp [go_sem]
        have c0_2 : W.cell? ⟨w.heap.size, 2, none⟩ = some (.int .i64 gr.g) := by rw [hW]; simp [go_sem]
        have c1_0x : W.cell? ⟨w.heap.size + 1, 0, none⟩ = some (.int .i64 0) := by rw [hW]; simp [go_sem]
        have c1_1x : W.cell? ⟨w.heap.size + 1, 1, none⟩ = some (.int .i64 0) := by rw [hW]; simp [go_sem]
        have HR1 : Hid (BoxN W (w.heap.size + 1) 58 [.int .i64 0, .int .i64 0]) := by unfold Hid; rw [hW]; have h := (BoxN.new (w.alloc (.cells #[.int .i64 gr.p, .int .i64 gr.q, .int .i64 gr.g] 39)) [.int .i64 0, .int .i64 0] 58); simpa using h
        have HSW : Hid (W.heap.size = w.heap.size + 2) := by unfold Hid; rw [hW]; simp
        have lr1 : w.heap.size + 1 < W.heap.size := by have := HSW.out; omega
        clear c1_0x
        clear c1_1x
        go_enter Try.func37, Try.ntmps37
        go_wp2_with fail
        rw [← hW]
        clear hW
        have hc : Below W.heap.size W W := Below.refl _ _
        go_wp2_with fail
        refine (impl_IsValidGroup gr _).mono ?_
        rintro e u1 ⟨rfl, hq1⟩
        replace hc := Below.next hc hq1
        replace c0_0 := box_at c0_0 hq1
        replace c0_1 := box_at c0_1 hq1
        replace c0_2 := box_at c0_2 hq1
        clear hq1
        rw [Hhc1.out]
        go_wp2_with fail
        refine (impl_hasCiphers gr _ l _ HG.out (Hv.out.below (HB.out.trans (hc.mono HB.out.size)))).mono ?_
        rintro e u2 ⟨rfl, hq2⟩
        replace hc := Below.next hc hq2
        replace c0_0 := box_at c0_0 hq2
        replace c0_1 := box_at c0_1 hq2
        replace c0_2 := box_at c0_2 hq2
        clear hq2
        rw [Hhc2.out]
        have HRE1 := Lib.hid (HR1.out.below hc)
        clear HR1
        have HBE := Lib.hid (HB.out.trans (hc.mono HB.out.size))
        have r1_0 := HRE1.out.cell (i := 0) rfl
        have r1_1 := HRE1.out.cell (i := 1) rfl
        have fr1 := fun j => HRE1.out.frozen j
        go_wp2_with fail
        have HRF := Lib.hid ((HRE1.out.set 0 (.int .i64 0)).set 1 (.int .i64 0))
        have HBF := Lib.hid ((HBE.out.setCell (p := ⟨w.heap.size + 1, 0, none⟩) (by show w.heap.size ≤ w.heap.size + 1; omega) (.int .i64 0)).setCell (p := ⟨w.heap.size + 1, 1, none⟩) (by show w.heap.size ≤ w.heap.size + 1; omega) (.int .i64 0))
        clear r1_0 r1_1 fr1
        have r1_0 := HRF.out.cell (i := 0) rfl
        have r1_1 := HRF.out.cell (i := 1) rfl
        try (go_wp2_with fail)
        refine bodyPost_ret (v := .tuple #[.agg #[.int .i64 0, .int .i64 0], .bool false]) (by simp [results, Try.results37, go_sem, r1_0, r1_1]) rfl ⟨rfl, HBF.out⟩
set_option maxRecDepth 100000 in
set_option maxHeartbeats 2000000 in
theorem spec_WeightedProduct (gr : GroupD) (v : Value) (l : List CipherD) (v2 : Value) (es : List Int) (w : World) (h : RdR rCipher w v l) (h2 : Ints w v2 es) :
    Calls Try.prog 38 #[.agg #[.int .i64 gr.p, .int .i64 gr.q, .int .i64 gr.g], v, v2] w fun e w' => e = .returned (.tuple #[.agg #[.int .i64 (wpR gr l es).a, .int .i64 (wpR gr l es).b], .bool (wpB gr l es)]) ∧ Below w.heap.size w w' := by
  obtain ⟨va, vn, vc, rfl⟩ := h.shape
  have Ev := Lib.hid h.len
  have Kv := Lib.hid h.capMax
  have Hv := Lib.hid h
  clear h
  obtain ⟨v2a, v2n, v2c, rfl⟩ := h2.shape
  have Ev2 := Lib.hid h2.len
  have Kv2 := Lib.hid h2.capMax
  have Hv2 := Lib.hid h2
  clear h2
  cases hc1 : goodG gr with
  | false =>
    have HV : Hid ((.tuple #[.agg #[.int .i64 (wpR gr l es).a, .int .i64 (wpR gr l es).b], .bool (wpB gr l es)] : Value) = .tuple #[.agg #[.int .i64 0, .int .i64 0], .bool false]) := by unfold Hid; simp [wpR, wpB, hc1]
    rw [HV.out]
    have Hhc1 := Lib.hid hc1
    clear hc1
    obtain ⟨W, hW⟩ : ∃ W, W = (w.alloc (.cells #[.int .i64 gr.p, .int .i64 gr.q, .int .i64 gr.g] 39)).alloc (.cells #[.int .i64 0, .int .i64 0] 58) := ⟨_, rfl⟩
    have HB : Hid (Below w.heap.size w W) := by unfold Hid; rw [hW]; (repeat (first | exact Below.refl _ _ | assumption | refine Below.drew ?_ | refine Below.alloc ?_ (by first | (simp; done) | (simp; omega)) _ | refine Below.setCell ?_ (by first | (simp; done) | (simp; omega)) _))
    have c0_0 : W.cell? ⟨w.heap.size, 0, none⟩ = some (.int .i64 gr.p) := by rw [hW]; simp [go_sem]
    have c0_1 : W.cell? ⟨w.heap.size, 1, none⟩ = some (.int .i64 gr.q) := by rw [hW]; simp [go_sem]
    have c0_2 : W.cell? ⟨w.heap.size, 2, none⟩ = some (.int .i64 gr.g) := by rw [hW]; simp [go_sem]
    have c1_0x : W.cell? ⟨w.heap.size + 1, 0, none⟩ = some (.int .i64 0) := by rw [hW]; simp [go_sem]
    have c1_1x : W.cell? ⟨w.heap.size + 1, 1, none⟩ = some (.int .i64 0) := by rw [hW]; simp [go_sem]
    have HR1 : Hid (BoxN W (w.heap.size + 1) 58 [.int .i64 0, .int .i64 0]) := by unfold Hid; rw [hW]; have h := (BoxN.new (w.alloc (.cells #[.int .i64 gr.p, .int .i64 gr.q, .int .i64 gr.g] 39)) [.int .i64 0, .int .i64 0] 58); simpa using h
    have HSW : Hid (W.heap.size = w.heap.size + 2) := by unfold Hid; rw [hW]; simp
    have lr1 : w.heap.size + 1 < W.heap.size := by have := HSW.out; omega
    clear c1_0x
    clear c1_1x
    go_enter Try.func38, Try.ntmps38
    go_wp2_with fail
    rw [← hW]
    clear hW
    have hc : Below W.heap.size W W := Below.refl _ _
    go_wp2_with fail
    refine (spec_l2Good gr _).mono ?_
    rintro e u1 ⟨rfl, hq1⟩
    replace hc := Below.next hc hq1
    replace c0_0 := box_at c0_0 hq1
    replace c0_1 := box_at c0_1 hq1
    replace c0_2 := box_at c0_2 hq1
    clear hq1
    rw [Hhc1.out]
    have HRE1 := Lib.hid (HR1.out.below hc)
    clear HR1
    have HBE := Lib.hid (HB.out.trans (hc.mono HB.out.size))
    have r1_0 := HRE1.out.cell (i := 0) rfl
    have r1_1 := HRE1.out.cell (i := 1) rfl
    have fr1 := fun j => HRE1.out.frozen j
    go_wp2_with fail
    have HRF := Lib.hid ((HRE1.out.set 0 (.int .i64 0)).set 1 (.int .i64 0))
    have HBF := Lib.hid ((HBE.out.setCell (p := ⟨w.heap.size + 1, 0, none⟩) (by show w.heap.size ≤ w.heap.size + 1; omega) (.int .i64 0)).setCell (p := ⟨w.heap.size + 1, 1, none⟩) (by show w.heap.size ≤ w.heap.size + 1; omega) (.int .i64 0))
    clear r1_0 r1_1 fr1
    have r1_0 := HRF.out.cell (i := 0) rfl
    have r1_1 := HRF.out.cell (i := 1) rfl
    try (go_wp2_with fail)
    refine bodyPost_ret (v := .tuple #[.agg #[.int .i64 0, .int .i64 0], .bool false]) (by simp [results, Try.results38, go_sem, r1_0, r1_1]) rfl ⟨rfl, HBF.out⟩
  | true =>
    have HG := Lib.hid (goodG_ok hc1)
    cases hc2 : cisB gr l with
    | false =>
      have HV : Hid ((.tuple #[.agg #[.int .i64 (wpR gr l es).a, .int .i64 (wpR gr l es).b], .bool (wpB gr l es)] : Value) = .tuple #[.agg #[.int .i64 0, .int .i64 0], .bool false]) := by unfold Hid; simp [wpR, wpB, hc1, hc2]
      rw [HV.out]
      have Hhc1 := Lib.hid hc1
      clear hc1
      have Hhc2 := Lib.hid hc2
      clear hc2
      obtain ⟨W, hW⟩ : ∃ W, W = (w.alloc (.cells #[.int .i64 gr.p, .int .i64 gr.q, .int .i64 gr.g] 39)).alloc (.cells #[.int .i64 0, .int .i64 0] 58) := ⟨_, rfl⟩
      have HB : Hid (Below w.heap.size w W) := by unfold Hid; rw [hW]; (repeat (first | exact Below.refl _ _ | assumption | refine Below.drew ?_ | refine Below.alloc ?_ (by first | (simp; done) | (simp; omega)) _ | refine Below.setCell ?_ (by first | (simp; done) | (simp; omega)) _))
      have c0_0 : W.cell? ⟨w.heap.size, 0, none⟩ = some (.int .i64 gr.p) := by rw [hW]; simp [go_sem]
      have c0_1 : W.cell? ⟨w.heap.size, 1, none⟩ = some (.int .i64 gr.q) := by rw [hW]; simp [go_sem]
      have c0_2 : W.cell? ⟨w.heap.size, 2, none⟩ = some (.int .i64 gr.g) := by rw [hW]; simp [go_sem]
      have c1_0x : W.cell? ⟨w.heap.size + 1, 0, none⟩ = some (.int .i64 0) := by rw [hW]; simp [go_sem]
      have c1_1x : W.cell? ⟨w.heap.size + 1, 1, none⟩ = some (.int .i64 0) := by rw [hW]; simp [go_sem]
      have HR1 : Hid (BoxN W (w.heap.size + 1) 58 [.int .i64 0, .int .i64 0]) := by unfold Hid; rw [hW]; have h := (BoxN.new (w.alloc (.cells #[.int .i64 gr.p, .int .i64 gr.q, .int .i64 gr.g] 39)) [.int .i64 0, .int .i64 0] 58); simpa using h
      have HSW : Hid (W.heap.size = w.heap.size + 2) := by unfold Hid; rw [hW]; simp
      have lr1 : w.heap.size + 1 < W.heap.size := by have := HSW.out; omega
      clear c1_0x
      clear c1_1x
      go_enter Try.func38, Try.ntmps38
      go_wp2_with fail
      rw [← hW]
      clear hW
      have hc : Below W.heap.size W W := Below.refl _ _
      go_wp2_with fail
      refine (spec_l2Good gr _).mono ?_
      rintro e u1 ⟨rfl, hq1⟩
      replace hc := Below.next hc hq1
      replace c0_0 := box_at c0_0 hq1
      replace c0_1 := box_at c0_1 hq1
      replace c0_2 := box_at c0_2 hq1
      clear hq1
      rw [Hhc1.out]
      go_wp2_with fail
      refine (spec_eGoodC gr _ l _ HG.out (Hv.out.below (HB.out.trans (hc.mono HB.out.size)))).mono ?_
      rintro e u2 ⟨rfl, hq2⟩
      replace hc := Below.next hc hq2
      replace c0_0 := box_at c0_0 hq2
      replace c0_1 := box_at c0_1 hq2
      replace c0_2 := box_at c0_2 hq2
      clear hq2
      rw [Hhc2.out]
      have HRE1 := Lib.hid (HR1.out.below hc)
      clear HR1
      have HBE := Lib.hid (HB.out.trans (hc.mono HB.out.size))
      have r1_0 := HRE1.out.cell (i := 0) rfl
      have r1_1 := HRE1.out.cell (i := 1) rfl
      have fr1 := fun j => HRE1.out.frozen j
      go_wp2_with fail
      have HRF := Lib.hid ((HRE1.out.set 0 (.int .i64 0)).set 1 (.int .i64 0))
      have HBF := Lib.hid ((HBE.out.setCell (p := ⟨w.heap.size + 1, 0, none⟩) (by show w.heap.size ≤ w.heap.size + 1; omega) (.int .i64 0)).setCell (p := ⟨w.heap.size + 1, 1, none⟩) (by show w.heap.size ≤ w.heap.size + 1; omega) (.int .i64 0))
      clear r1_0 r1_1 fr1
      have r1_0 := HRF.out.cell (i := 0) rfl
      have r1_1 := HRF.out.cell (i := 1) rfl
      try (go_wp2_with fail)
      refine bodyPost_ret (v := .tuple #[.agg #[.int .i64 0, .int .i64 0], .bool false]) (by simp [results, Try.results38, go_sem, r1_0, r1_1]) rfl ⟨rfl, HBF.out⟩
    | true =>
      have Hl := Lib.hid hc2
      cases hc3 : ((v2n : Int) != (vn : Int)) with
      | false =>
        have HLN : Hid (decide (es.length = l.length) = true) := by have e1 := Ev.out; have e2 := Ev2.out; have q : (v2n : Int) = vn := (by simpa using hc3); exact decide_eq_true (by omega)
        cases hc4 : es.all (expB gr) with
        | false =>
          have HV : Hid ((.tuple #[.agg #[.int .i64 (wpR gr l es).a, .int .i64 (wpR gr l es).b], .bool (wpB gr l es)] : Value) = .tuple #[.agg #[.int .i64 0, .int .i64 0], .bool false]) := by unfold Hid; simp [wpR, wpB, hc1, hc2, hc3, hc4, HLN.out]
          rw [HV.out]
          have Hhc1 := Lib.hid hc1
          clear hc1
          have Hhc2 := Lib.hid hc2
          clear hc2
          have Hhc4 := Lib.hid hc4
          clear hc4
          obtain ⟨W, hW⟩ : ∃ W, W = (w.alloc (.cells #[.int .i64 gr.p, .int .i64 gr.q, .int .i64 gr.g] 39)).alloc (.cells #[.int .i64 0, .int .i64 0] 58) := ⟨_, rfl⟩
          have HB : Hid (Below w.heap.size w W) := by unfold Hid; rw [hW]; (repeat (first | exact Below.refl _ _ | assumption | refine Below.drew ?_ | refine Below.alloc ?_ (by first | (simp; done) | (simp; omega)) _ | refine Below.setCell ?_ (by first | (simp; done) | (simp; omega)) _))
          have c0_0 : W.cell? ⟨w.heap.size, 0, none⟩ = some (.int .i64 gr.p) := by rw [hW]; simp [go_sem]
          have c0_1 : W.cell? ⟨w.heap.size, 1, none⟩ = some (.int .i64 gr.q) := by rw [hW]; simp [go_sem]
          have c0_2 : W.cell? ⟨w.heap.size, 2, none⟩ = some (.int .i64 gr.g) := by rw [hW]; simp [go_sem]
          have c1_0x : W.cell? ⟨w.heap.size + 1, 0, none⟩ = some (.int .i64 0) := by rw [hW]; simp [go_sem]
          have c1_1x : W.cell? ⟨w.heap.size + 1, 1, none⟩ = some (.int .i64 0) := by rw [hW]; simp [go_sem]
          have HR1 : Hid (BoxN W (w.heap.size + 1) 58 [.int .i64 0, .int .i64 0]) := by unfold Hid; rw [hW]; have h := (BoxN.new (w.alloc (.cells #[.int .i64 gr.p, .int .i64 gr.q, .int .i64 gr.g] 39)) [.int .i64 0, .int .i64 0] 58); simpa using h
          have HSW : Hid (W.heap.size = w.heap.size + 2) := by unfold Hid; rw [hW]; simp
          have lr1 : w.heap.size + 1 < W.heap.size := by have := HSW.out; omega
          clear c1_0x
          clear c1_1x
          go_enter Try.func38, Try.ntmps38
          go_wp2_with fail
          rw [← hW]
          clear hW
          have hc : Below W.heap.size W W := Below.refl _ _
          go_wp2_with fail
          refine (spec_l2Good gr _).mono ?_
          rintro e u1 ⟨rfl, hq1⟩
          replace hc := Below.next hc hq1
          replace c0_0 := box_at c0_0 hq1
          replace c0_1 := box_at c0_1 hq1
          replace c0_2 := box_at c0_2 hq1
          clear hq1
          rw [Hhc1.out]
          go_wp2_with fail
          refine (spec_eGoodC gr _ l _ HG.out (Hv.out.below (HB.out.trans (hc.mono HB.out.size)))).mono ?_
          rintro e u2 ⟨rfl, hq2⟩
          replace hc := Below.next hc hq2
          replace c0_0 := box_at c0_0 hq2
          replace c0_1 := box_at c0_1 hq2
          replace c0_2 := box_at c0_2 hq2
          clear hq2
          rw [Hhc2.out]
          go_wp2_with fail
          refine (spec_gExps gr _ es _ HG.out (Hv2.out.below (HB.out.trans (hc.mono HB.out.size)))).mono ?_
          rintro e u3 ⟨rfl, hq3⟩
          replace hc := Below.next hc hq3
          replace c0_0 := box_at c0_0 hq3
          replace c0_1 := box_at c0_1 hq3
          replace c0_2 := box_at c0_2 hq3
          clear hq3
          rw [Hhc4.out]
          have HRE1 := Lib.hid (HR1.out.below hc)
          clear HR1
          have HBE := Lib.hid (HB.out.trans (hc.mono HB.out.size))
          have r1_0 := HRE1.out.cell (i := 0) rfl
          have r1_1 := HRE1.out.cell (i := 1) rfl
          have fr1 := fun j => HRE1.out.frozen j
          go_wp2_with fail
          have HRF := Lib.hid ((HRE1.out.set 0 (.int .i64 0)).set 1 (.int .i64 0))
          have HBF := Lib.hid ((HBE.out.setCell (p := ⟨w.heap.size + 1, 0, none⟩) (by show w.heap.size ≤ w.heap.size + 1; omega) (.int .i64 0)).setCell (p := ⟨w.heap.size + 1, 1, none⟩) (by show w.heap.size ≤ w.heap.size + 1; omega) (.int .i64 0))
          clear r1_0 r1_1 fr1
          have r1_0 := HRF.out.cell (i := 0) rfl
          have r1_1 := HRF.out.cell (i := 1) rfl
          try (go_wp2_with fail)
          refine bodyPost_ret (v := .tuple #[.agg #[.int .i64 0, .int .i64 0], .bool false]) (by simp [results, Try.results38, go_sem, r1_0, r1_1]) rfl ⟨rfl, HBF.out⟩
        | true =>
          have HV : Hid ((.tuple #[.agg #[.int .i64 (wpR gr l es).a, .int .i64 (wpR gr l es).b], .bool (wpB gr l es)] : Value) = .tuple #[.agg #[.int .i64 ((wC gr l es).a), .int .i64 ((wC gr l es).b)], .bool true]) := by unfold Hid; simp [wpR, wpB, hc1, hc2, hc3, hc4, HLN.out]
          rw [HV.out]
          have Hhc1 := Lib.hid hc1
          clear hc1
          have Hhc2 := Lib.hid hc2
          clear hc2
          have Hhc4 := Lib.hid hc4
          clear hc4
          obtain ⟨W, hW⟩ : ∃ W, W = (w.alloc (.cells #[.int .i64 gr.p, .int .i64 gr.q, .int .i64 gr.g] 39)).alloc (.cells #[.int .i64 0, .int .i64 0] 58) := ⟨_, rfl⟩
          have HB : Hid (Below w.heap.size w W) := by unfold Hid; rw [hW]; (repeat (first | exact Below.refl _ _ | assumption | refine Below.drew ?_ | refine Below.alloc ?_ (by first | (simp; done) | (simp; omega)) _ | refine Below.setCell ?_ (by first | (simp; done) | (simp; omega)) _))
          have c0_0 : W.cell? ⟨w.heap.size, 0, none⟩ = some (.int .i64 gr.p) := by rw [hW]; simp [go_sem]
          have c0_1 : W.cell? ⟨w.heap.size, 1, none⟩ = some (.int .i64 gr.q) := by rw [hW]; simp [go_sem]
          have c0_2 : W.cell? ⟨w.heap.size, 2, none⟩ = some (.int .i64 gr.g) := by rw [hW]; simp [go_sem]
          have c1_0x : W.cell? ⟨w.heap.size + 1, 0, none⟩ = some (.int .i64 0) := by rw [hW]; simp [go_sem]
          have c1_1x : W.cell? ⟨w.heap.size + 1, 1, none⟩ = some (.int .i64 0) := by rw [hW]; simp [go_sem]
          have HR1 : Hid (BoxN W (w.heap.size + 1) 58 [.int .i64 0, .int .i64 0]) := by unfold Hid; rw [hW]; have h := (BoxN.new (w.alloc (.cells #[.int .i64 gr.p, .int .i64 gr.q, .int .i64 gr.g] 39)) [.int .i64 0, .int .i64 0] 58); simpa using h
          have HSW : Hid (W.heap.size = w.heap.size + 2) := by unfold Hid; rw [hW]; simp
          have lr1 : w.heap.size + 1 < W.heap.size := by have := HSW.out; omega
          clear c1_0x
          clear c1_1x
          go_enter Try.func38, Try.ntmps38
          go_wp2_with fail
          rw [← hW]
          clear hW
          have hc : Below W.heap.size W W := Below.refl _ _
          go_wp2_with fail
          refine (spec_l2Good gr _).mono ?_
          rintro e u1 ⟨rfl, hq1⟩
          replace hc := Below.next hc hq1
          replace c0_0 := box_at c0_0 hq1
          replace c0_1 := box_at c0_1 hq1
          replace c0_2 := box_at c0_2 hq1
          clear hq1
          rw [Hhc1.out]
          go_wp2_with fail
          refine (spec_eGoodC gr _ l _ HG.out (Hv.out.below (HB.out.trans (hc.mono HB.out.size)))).mono ?_
          rintro e u2 ⟨rfl, hq2⟩
          replace hc := Below.next hc hq2
          replace c0_0 := box_at c0_0 hq2
          replace c0_1 := box_at c0_1 hq2
          replace c0_2 := box_at c0_2 hq2
          clear hq2
          rw [Hhc2.out]
          go_wp2_with fail
          refine (spec_gExps gr _ es _ HG.out (Hv2.out.below (HB.out.trans (hc.mono HB.out.size)))).mono ?_
          rintro e u3 ⟨rfl, hq3⟩
          replace hc := Below.next hc hq3
          replace c0_0 := box_at c0_0 hq3
          replace c0_1 := box_at c0_1 hq3
          replace c0_2 := box_at c0_2 hq3
          clear hq3
          rw [Hhc4.out]
          go_wp2_with fail
          refine (spec_eProd gr _ l _ es _ HG.out (Hv.out.below (HB.out.trans (hc.mono HB.out.size))) (cisB_small HG.out Hl.out) (Hv2.out.below (HB.out.trans (hc.mono HB.out.size))) (by have e1 := Ev.out; have e2 := Ev2.out; have := of_decide_eq_true HLN.out; omega)).mono ?_
          rintro e u4 ⟨rfl, hq4⟩
          replace hc := Below.next hc hq4
          replace c0_0 := box_at c0_0 hq4
          replace c0_1 := box_at c0_1 hq4
          replace c0_2 := box_at c0_2 hq4
          clear hq4
          have HRE1 := Lib.hid (HR1.out.below hc)
          clear HR1
          have HBE := Lib.hid (HB.out.trans (hc.mono HB.out.size))
          have r1_0 := HRE1.out.cell (i := 0) rfl
          have r1_1 := HRE1.out.cell (i := 1) rfl
          have fr1 := fun j => HRE1.out.frozen j
          go_wp2_with fail
          have HRF := Lib.hid ((HRE1.out.set 0 (.int .i64 ((wC gr l es).a))).set 1 (.int .i64 ((wC gr l es).b)))
          have HBF := Lib.hid ((HBE.out.setCell (p := ⟨w.heap.size + 1, 0, none⟩) (by show w.heap.size ≤ w.heap.size + 1; omega) (.int .i64 ((wC gr l es).a))).setCell (p := ⟨w.heap.size + 1, 1, none⟩) (by show w.heap.size ≤ w.heap.size + 1; omega) (.int .i64 ((wC gr l es).b)))
          clear r1_0 r1_1 fr1
          have r1_0 := HRF.out.cell (i := 0) rfl
          have r1_1 := HRF.out.cell (i := 1) rfl
          try (go_wp2_with fail)
          refine bodyPost_ret (v := .tuple #[.agg #[.int .i64 ((wC gr l es).a), .int .i64 ((wC gr l es).b)], .bool true]) (by simp [results, Try.results38, go_sem, r1_0, r1_1]) rfl ⟨rfl, HBF.out⟩
      | true =>
        have HLN : Hid (decide (es.length = l.length) = false) := by have e1 := Ev.out; have e2 := Ev2.out; have q : (v2n : Int) ≠ vn := (by simpa using hc3); exact decide_eq_false (by omega)
        have HV : Hid ((.tuple #[.agg #[.int .i64 (wpR gr l es).a, .int .i64 (wpR gr l es).b], .bool (wpB gr l es)] : Value) = .tuple #[.agg #[.int .i64 0, .int .i64 0], .bool false]) := by unfold Hid; simp [wpR, wpB, hc1, hc2, hc3, HLN.out]
        rw [HV.out]
        have Hhc1 := Lib.hid hc1
        clear hc1
        have Hhc2 := Lib.hid hc2
        clear hc2
        obtain ⟨W, hW⟩ : ∃ W, W = (w.alloc (.cells #[.int .i64 gr.p, .int .i64 gr.q, .int .i64 gr.g] 39)).alloc (.cells #[.int .i64 0, .int .i64 0] 58) := ⟨_, rfl⟩
        have HB : Hid (Below w.heap.size w W) := by unfold Hid; rw [hW]; (repeat (first | exact Below.refl _ _ | assumption | refine Below.drew ?_ | refine Below.alloc ?_ (by first | (simp; done) | (simp; omega)) _ | refine Below.setCell ?_ (by first | (simp; done) | (simp; omega)) _))
        have c0_0 : W.cell? ⟨w.heap.size, 0, none⟩ = some (.int .i64 gr.p) := by rw [hW]; simp [go_sem]
        have c0_1 : W.cell? ⟨w.heap.size, 1, none⟩ = some (.int .i64 gr.q) := by rw [hW]; simp [go_sem]
        have c0_2 : W.cell? ⟨w.heap.size, 2, none⟩ = some (.int .i64 gr.g) := by rw [hW]; simp [go_sem]
        have c1_0x : W.cell? ⟨w.heap.size + 1, 0, none⟩ = some (.int .i64 0) := by rw [hW]; simp [go_sem]
        have c1_1x : W.cell? ⟨w.heap.size + 1, 1, none⟩ = some (.int .i64 0) := by rw [hW]; simp [go_sem]
        have HR1 : Hid (BoxN W (w.heap.size + 1) 58 [.int .i64 0, .int .i64 0]) := by unfold Hid; rw [hW]; have h := (BoxN.new (w.alloc (.cells #[.int .i64 gr.p, .int .i64 gr.q, .int .i64 gr.g] 39)) [.int .i64 0, .int .i64 0] 58); simpa using h
        have HSW : Hid (W.heap.size = w.heap.size + 2) := by unfold Hid; rw [hW]; simp
        have lr1 : w.heap.size + 1 < W.heap.size := by have := HSW.out; omega
        clear c1_0x
        clear c1_1x
        go_enter Try.func38, Try.ntmps38
        go_wp2_with fail
        rw [← hW]
        clear hW
        have hc : Below W.heap.size W W := Below.refl _ _
        go_wp2_with fail
        refine (spec_l2Good gr _).mono ?_
        rintro e u1 ⟨rfl, hq1⟩
        replace hc := Below.next hc hq1
        replace c0_0 := box_at c0_0 hq1
        replace c0_1 := box_at c0_1 hq1
        replace c0_2 := box_at c0_2 hq1
        clear hq1
        rw [Hhc1.out]
        go_wp2_with fail
        refine (spec_eGoodC gr _ l _ HG.out (Hv.out.below (HB.out.trans (hc.mono HB.out.size)))).mono ?_
        rintro e u2 ⟨rfl, hq2⟩
        replace hc := Below.next hc hq2
        replace c0_0 := box_at c0_0 hq2
        replace c0_1 := box_at c0_1 hq2
        replace c0_2 := box_at c0_2 hq2
        clear hq2
        rw [Hhc2.out]
        have HRE1 := Lib.hid (HR1.out.below hc)
        clear HR1
        have HBE := Lib.hid (HB.out.trans (hc.mono HB.out.size))
        have r1_0 := HRE1.out.cell (i := 0) rfl
        have r1_1 := HRE1.out.cell (i := 1) rfl
        have fr1 := fun j => HRE1.out.frozen j
        go_wp2_with fail
        have HRF := Lib.hid ((HRE1.out.set 0 (.int .i64 0)).set 1 (.int .i64 0))
        have HBF := Lib.hid ((HBE.out.setCell (p := ⟨w.heap.size + 1, 0, none⟩) (by show w.heap.size ≤ w.heap.size + 1; omega) (.int .i64 0)).setCell (p := ⟨w.heap.size + 1, 1, none⟩) (by show w.heap.size ≤ w.heap.size + 1; omega) (.int .i64 0))
        clear r1_0 r1_1 fr1
        have r1_0 := HRF.out.cell (i := 0) rfl
        have r1_1 := HRF.out.cell (i := 1) rfl
        try (go_wp2_with fail)
        refine bodyPost_ret (v := .tuple #[.agg #[.int .i64 0, .int .i64 0], .bool false]) (by simp [results, Try.results38, go_sem, r1_0, r1_1]) rfl ⟨rfl, HBF.out⟩
end Go.Proofs.Ytboahnklilmdpaa

/- Commitments: the walks (printed by gen_com1.py). -/
import Derived.Test.YteemlmmdngkghaaBgU
import Derived.Test.YteemlmmdngkghaaRegPU
import Derived.Test.YteemlmmdngkghaaBmU
namespace Go.Proofs.Yteemlmmdngkghaa
open Go.RowKit
set_option linter.unusedSimpArgs false
set_option linter.unusedVariables false

theorem small_64 {x : Int} (h : Small x) : I64 x := ⟨by have := h.1; omega, by have := h.2; omega⟩
theorem powE_small {gr : GroupD} (hg : OkG gr) (x e : Int) : Small (powE gr x e) := by
  have := powE_bd hg x e; have := hg.p2; exact ⟨by omega, by omega⟩
theorem mulL_small {gr : GroupD} (hg : OkG gr) (l : List Int) : Small (mulL gr l) := by
  have := mulL_bd hg l; have := hg.p2; exact ⟨by omega, by omega⟩
theorem AllSmall.nil : AllSmall [] := fun x hx => by cases hx
theorem AllSmall.cons {x : Int} {l : List Int} (h : Small x) (h' : AllSmall l) : AllSmall (x :: l) := fun y hy => by
  rcases List.mem_cons.1 hy with rfl | hy
  · exact h
  · exact h' y hy
def coM (gr : GroupD) (h m r : Int) : Int := mulL gr [powE gr gr.g m, powE gr h r]
set_option maxRecDepth 100000 in
set_option maxHeartbeats 2000000 in
theorem impl_commit (gr : GroupD) (bh : Int) (bv : Value) (bl : List Int) (m r : Int) (w : World) (hg : OkG gr) (hb : Ints w bv bl) (sbh : Small bh) (hm : I64 m) (hr : I64 r) :
    Calls Try.prog 219 #[.agg #[.int .i64 gr.p, .int .i64 gr.q, .int .i64 gr.g], .agg #[.int .i64 bh, bv], .int .i64 m, .int .i64 r] w fun e w' => e = .returned (.int .i64 (coM gr bh m r)) ∧ Below w.heap.size w w' := by
  have HG := Lib.hid hg
  have hg1 := hg.g1
  have hg2 := hg.g2
  have hp1 := hg.p1
  have hp2 := hg.p2
  have hq1 := hg.q1
  have hq2 := hg.q2
  have sg : Small gr.g := ⟨by omega, by omega⟩
  clear hg
  obtain ⟨ba, bn, bc, rfl⟩ := hb.shape
  have HBL := Lib.hid hb; clear hb
  have HV : Hid (((.int .i64 (coM gr bh m r)) : Value) = .int .i64 (mulL gr [powE gr gr.g m, powE gr bh r])) := by unfold Hid; simp [coM]
  rw [HV.out]
  obtain ⟨W, hW⟩ : ∃ W, W = (w.alloc (.cells #[.int .i64 gr.p, .int .i64 gr.q, .int .i64 gr.g] 25)).alloc (.cells #[.int .i64 bh, (.slice ba bn bc)] 28) := ⟨_, rfl⟩
  have HB : Hid (Below w.heap.size w W) := by unfold Hid; rw [hW]; (repeat (first | exact Below.refl _ _ | assumption | refine Below.drew ?_ | refine Below.alloc ?_ (by first | (simp; done) | (simp; omega)) _ | refine Below.setCell ?_ (by first | (simp; done) | (simp; omega)) _))
  have c0_0 : W.cell? ⟨w.heap.size, 0, none⟩ = some (.int .i64 gr.p) := by rw [hW]; simp [go_sem]
  have c0_1 : W.cell? ⟨w.heap.size, 1, none⟩ = some (.int .i64 gr.q) := by rw [hW]; simp [go_sem]
  have c0_2 : W.cell? ⟨w.heap.size, 2, none⟩ = some (.int .i64 gr.g) := by rw [hW]; simp [go_sem]
  have c1_0 : W.cell? ⟨w.heap.size + 1, 0, none⟩ = some (.int .i64 bh) := by rw [hW]; simp [go_sem]
  have c1_1 : W.cell? ⟨w.heap.size + 1, 1, none⟩ = some ((.slice ba bn bc)) := by rw [hW]; simp [go_sem]
  have HSW : Hid (W.heap.size = w.heap.size + 2) := by unfold Hid; rw [hW]; simp
  go_enter Try.func219, Try.ntmps219
  go_wp2_with fail
  rw [← hW]
  clear hW
  have hc : Below W.heap.size W W := Below.refl _ _
  try (go_wp2_with fail)
  refine wp_region_noPanic ?_
  refine wp_region_P (fun w' => w'.cell? ⟨w.heap.size, 0, none⟩ = some (.int .i64 gr.p) ∧ w'.cell? ⟨w.heap.size, 1, none⟩ = some (.int .i64 gr.q) ∧ w'.cell? ⟨w.heap.size, 2, none⟩ = some (.int .i64 gr.g) ∧ w'.cell? ⟨w.heap.size + 1, 0, none⟩ = some (.int .i64 bh) ∧ w'.cell? ⟨w.heap.size + 1, 1, none⟩ = some ((.slice ba bn bc))) 16 [(0, []), (1, []), (2, []), (3, [0]), (4, []), (5, [3, 1, 0]), (6, []), (7, []), (8, [0]), (9, []), (10, [3, 1, 0]), (11, [5, 0]), (12, [11, 0]), (13, [0])] [] (by kernel_rfl) (by kernel_rfl) (by kernel_rfl) rfl (fun _ _ _ _ h => h) (fun w' h => ⟨box_at c0_0 h, box_at c0_1 h, box_at c0_2 h, box_at c1_0 h, box_at c1_1 h⟩) ?_
  simp only [pickP, pickN, List.getElem?_cons_zero, List.getElem?_cons_succ]
  iterate 5 (refine' chainP_read _ rfl rfl (fun w' hS' => ?_) ?_; rotate_left; · (simp only [lookP, allP, Act.put, List.getElem?_cons_zero, List.getElem?_cons_succ, List.setIfInBounds_toArray, List.set_cons_zero, List.set_cons_succ]; (try dsimp only at hS'); go_simp; (try with_reducible rfl)))
  -- 5: call { callee := value (func 165), args := #[t10, t12, t13], argTypes := #[39, 3, 3] }
  refine chainP_call (d := (some 14)) (.int .i64 (powE gr gr.g m)) rfl rfl (fun w' hS' => ?_) ?_
  · simp only [lookP, allP, Act.put, List.getElem?_cons_zero, List.getElem?_cons_succ, List.setIfInBounds_toArray, List.set_cons_zero, List.set_cons_succ]
    intro K hK
    go_simp
    go_at_call 106
    refine (impl_pow gr gr.g m _ HG.out sg hm).mono ?_
    rintro e u ⟨rfl, hq⟩
    exact hK.out _ hq
  iterate 4 (refine' chainP_read _ rfl rfl (fun w' hS' => ?_) ?_; rotate_left; · (simp only [lookP, allP, Act.put, List.getElem?_cons_zero, List.getElem?_cons_succ, List.setIfInBounds_toArray, List.set_cons_zero, List.set_cons_succ]; (try dsimp only at hS'); go_simp; (try with_reducible rfl)))
  -- 10: call { callee := value (func 165), args := #[t15, t17, t18], argTypes := #[39, 3, 3] }
  refine chainP_call (d := (some 19)) (.int .i64 (powE gr bh r)) rfl rfl (fun w' hS' => ?_) ?_
  · simp only [lookP, allP, Act.put, List.getElem?_cons_zero, List.getElem?_cons_succ, List.setIfInBounds_toArray, List.set_cons_zero, List.set_cons_succ]
    intro K hK
    go_simp
    go_at_call 106
    refine (impl_pow gr bh r _ HG.out sbh hr).mono ?_
    rintro e u ⟨rfl, hq⟩
    exact hK.out _ hq
  -- 11: buildSlice 24 2 #[(0, t14), (1, t19)]
  refine chainP_do (d := (some 20)) (fun v w => Ints w v [powE gr gr.g m, powE gr bh r]) (fun v w w' hb h => Ints.below h hb) rfl rfl (fun w' hS' => ?_) ?_
  · simp only [lookP, allP, Act.put, List.getElem?_cons_zero, List.getElem?_cons_succ, List.setIfInBounds_toArray, List.set_cons_zero, List.set_cons_succ]
    intro K hK
    go_simp
    refine hK.out _ _ ((Below.refl _ _).alloc (Nat.le_refl _) _) ?_
    exact (OwnI.lit (B := w'.heap.size) w' (Nat.le_refl _) (l := [powE gr gr.g m, powE gr bh r]) (AllI64.cons (small_64 (powE_small HG.out _ _)) (AllI64.cons (small_64 (powE_small HG.out _ _)) AllI64.nil)) rfl (by simp [maxLen]) 2 rfl).ints
  -- 12: call { callee := value (func 197), args := #[t9, t20], argTypes := #[39, 24] }
  refine chainP_call (d := (some 21)) (.int .i64 (mulL gr [powE gr gr.g m, powE gr bh r])) rfl rfl (fun w' hS' => ?_) ?_
  · simp only [lookP, allP, Act.put, List.getElem?_cons_zero, List.getElem?_cons_succ, List.setIfInBounds_toArray, List.set_cons_zero, List.set_cons_succ]
    intro x11 hx11
    intro K hK
    go_simp
    go_at_call 105
    refine (impl_mul gr _ [powE gr gr.g m, powE gr bh r] _ HG.out hx11 (AllSmall.cons (powE_small HG.out _ _) (AllSmall.cons (powE_small HG.out _ _) AllSmall.nil))).mono ?_
    rintro e u ⟨rfl, hq⟩
    exact hK.out _ hq
  -- 13: assign t21
  refine' chainP_read (d := (some 8)) _ rfl rfl (fun w' hS' => ?_) ?_; rotate_left
  · simp only [lookP, allP, Act.put, List.getElem?_cons_zero, List.getElem?_cons_succ, List.setIfInBounds_toArray, List.set_cons_zero, List.set_cons_succ]
    (try dsimp only at hS')
    go_simp
    (try with_reducible rfl)
  refine chainP_nil (fun u1 hS' => ?_)
  simp only [allP, Act.put, List.setIfInBounds_toArray, List.set_cons_zero, List.set_cons_succ]
  intro x11 hx11
  have hq1 := hS'.1
  clear hS'
  replace hc := Below.next hc hq1
  replace c0_0 := box_at c0_0 hq1
  replace c0_1 := box_at c0_1 hq1
  replace c0_2 := box_at c0_2 hq1
  replace c1_0 := box_at c1_0 hq1
  replace c1_1 := box_at c1_1 hq1
  clear hq1
  go_wp2_with fail
  refine NoPanic.normal ?_
  go_wp2_with fail
  go_ret
  exact ⟨rfl, HB.out.trans (hc.mono HB.out.size)⟩
set_option maxRecDepth 100000 in
set_option maxHeartbeats 2000000 in
theorem spec_pCommit (gr : GroupD) (bh : Int) (bv : Value) (bl : List Int) (m r : Int) (w : World) (hg : OkG gr) (hb : Ints w bv bl) (sbh : Small bh) (hm : I64 m) (hr : I64 r) :
    Calls Try.prog 97 #[.agg #[.int .i64 gr.p, .int .i64 gr.q, .int .i64 gr.g], .agg #[.int .i64 bh, bv], .int .i64 m, .int .i64 r] w fun e w' => e = .returned (.int .i64 (coM gr bh m r)) ∧ Below w.heap.size w w' := by
  have HG := Lib.hid hg
  have hg1 := hg.g1
  have hg2 := hg.g2
  have hp1 := hg.p1
  have hp2 := hg.p2
  have hq1 := hg.q1
  have hq2 := hg.q2
  have sg : Small gr.g := ⟨by omega, by omega⟩
  clear hg
  obtain ⟨ba, bn, bc, rfl⟩ := hb.shape
  have HBL := Lib.hid hb; clear hb
  have HV : Hid (((.int .i64 (coM gr bh m r)) : Value) = .int .i64 (mulL gr [powE gr gr.g m, powE gr bh r])) := by unfold Hid; simp [coM]
  rw [HV.out]
  obtain ⟨W, hW⟩ : ∃ W, W = (w.alloc (.cells #[.int .i64 gr.p, .int .i64 gr.q, .int .i64 gr.g] 25)).alloc (.cells #[.int .i64 bh, (.slice ba bn bc)] 28) := ⟨_, rfl⟩
  have HB : Hid (Below w.heap.size w W) := by unfold Hid; rw [hW]; (repeat (first | exact Below.refl _ _ | assumption | refine Below.drew ?_ | refine Below.alloc ?_ (by first | (simp; done) | (simp; omega)) _ | refine Below.setCell ?_ (by first | (simp; done) | (simp; omega)) _))
  have c0_0 : W.cell? ⟨w.heap.size, 0, none⟩ = some (.int .i64 gr.p) := by rw [hW]; simp [go_sem]
  have c0_1 : W.cell? ⟨w.heap.size, 1, none⟩ = some (.int .i64 gr.q) := by rw [hW]; simp [go_sem]
  have c0_2 : W.cell? ⟨w.heap.size, 2, none⟩ = some (.int .i64 gr.g) := by rw [hW]; simp [go_sem]
  have c1_0 : W.cell? ⟨w.heap.size + 1, 0, none⟩ = some (.int .i64 bh) := by rw [hW]; simp [go_sem]
  have c1_1 : W.cell? ⟨w.heap.size + 1, 1, none⟩ = some ((.slice ba bn bc)) := by rw [hW]; simp [go_sem]
  have HSW : Hid (W.heap.size = w.heap.size + 2) := by unfold Hid; rw [hW]; simp
  go_enter Try.func97, Try.ntmps97
  go_wp2_with fail
  rw [← hW]
  clear hW
  have hc : Below W.heap.size W W := Below.refl _ _
  try (go_wp2_with fail)
  refine wp_region_noPanic ?_
  refine wp_region_P (fun w' => w'.cell? ⟨w.heap.size, 0, none⟩ = some (.int .i64 gr.p) ∧ w'.cell? ⟨w.heap.size, 1, none⟩ = some (.int .i64 gr.q) ∧ w'.cell? ⟨w.heap.size, 2, none⟩ = some (.int .i64 gr.g) ∧ w'.cell? ⟨w.heap.size + 1, 0, none⟩ = some (.int .i64 bh) ∧ w'.cell? ⟨w.heap.size + 1, 1, none⟩ = some ((.slice ba bn bc))) 16 [(0, []), (1, []), (2, []), (3, [0]), (4, []), (5, [3, 1, 0]), (6, []), (7, []), (8, [0]), (9, []), (10, [3, 1, 0]), (11, [5, 0]), (12, [11, 0]), (13, [0])] [] (by kernel_rfl) (by kernel_rfl) (by kernel_rfl) rfl (fun _ _ _ _ h => h) (fun w' h => ⟨box_at c0_0 h, box_at c0_1 h, box_at c0_2 h, box_at c1_0 h, box_at c1_1 h⟩) ?_
  simp only [pickP, pickN, List.getElem?_cons_zero, List.getElem?_cons_succ]
  iterate 5 (refine' chainP_read _ rfl rfl (fun w' hS' => ?_) ?_; rotate_left; · (simp only [lookP, allP, Act.put, List.getElem?_cons_zero, List.getElem?_cons_succ, List.setIfInBounds_toArray, List.set_cons_zero, List.set_cons_succ]; (try dsimp only at hS'); go_simp; (try with_reducible rfl)))
  -- 5: call { callee := value (func 156), args := #[t10, t12, t13], argTypes := #[39, 3, 3] }
  refine chainP_call (d := (some 14)) (.int .i64 (powE gr gr.g m)) rfl rfl (fun w' hS' => ?_) ?_
  · simp only [lookP, allP, Act.put, List.getElem?_cons_zero, List.getElem?_cons_succ, List.setIfInBounds_toArray, List.set_cons_zero, List.set_cons_succ]
    intro K hK
    go_simp
    go_at_call 117
    refine (spec_gExp gr gr.g m _ HG.out sg hm).mono ?_
    rintro e u ⟨rfl, hq⟩
    exact hK.out _ hq
  iterate 4 (refine' chainP_read _ rfl rfl (fun w' hS' => ?_) ?_; rotate_left; · (simp only [lookP, allP, Act.put, List.getElem?_cons_zero, List.getElem?_cons_succ, List.setIfInBounds_toArray, List.set_cons_zero, List.set_cons_succ]; (try dsimp only at hS'); go_simp; (try with_reducible rfl)))
  -- 10: call { callee := value (func 156), args := #[t15, t17, t18], argTypes := #[39, 3, 3] }
  refine chainP_call (d := (some 19)) (.int .i64 (powE gr bh r)) rfl rfl (fun w' hS' => ?_) ?_
  · simp only [lookP, allP, Act.put, List.getElem?_cons_zero, List.getElem?_cons_succ, List.setIfInBounds_toArray, List.set_cons_zero, List.set_cons_succ]
    intro K hK
    go_simp
    go_at_call 117
    refine (spec_gExp gr bh r _ HG.out sbh hr).mono ?_
    rintro e u ⟨rfl, hq⟩
    exact hK.out _ hq
  -- 11: buildSlice 24 2 #[(0, t14), (1, t19)]
  refine chainP_do (d := (some 20)) (fun v w => Ints w v [powE gr gr.g m, powE gr bh r]) (fun v w w' hb h => Ints.below h hb) rfl rfl (fun w' hS' => ?_) ?_
  · simp only [lookP, allP, Act.put, List.getElem?_cons_zero, List.getElem?_cons_succ, List.setIfInBounds_toArray, List.set_cons_zero, List.set_cons_succ]
    intro K hK
    go_simp
    refine hK.out _ _ ((Below.refl _ _).alloc (Nat.le_refl _) _) ?_
    exact (OwnI.lit (B := w'.heap.size) w' (Nat.le_refl _) (l := [powE gr gr.g m, powE gr bh r]) (AllI64.cons (small_64 (powE_small HG.out _ _)) (AllI64.cons (small_64 (powE_small HG.out _ _)) AllI64.nil)) rfl (by simp [maxLen]) 2 rfl).ints
  -- 12: call { callee := value (func 211), args := #[t9, t20], argTypes := #[39, 24] }
  refine chainP_call (d := (some 21)) (.int .i64 (mulL gr [powE gr gr.g m, powE gr bh r])) rfl rfl (fun w' hS' => ?_) ?_
  · simp only [lookP, allP, Act.put, List.getElem?_cons_zero, List.getElem?_cons_succ, List.setIfInBounds_toArray, List.set_cons_zero, List.set_cons_succ]
    intro x11 hx11
    intro K hK
    go_simp
    go_at_call 125
    refine (spec_gMul gr _ [powE gr gr.g m, powE gr bh r] _ HG.out hx11 (AllSmall.cons (powE_small HG.out _ _) (AllSmall.cons (powE_small HG.out _ _) AllSmall.nil))).mono ?_
    rintro e u ⟨rfl, hq⟩
    exact hK.out _ hq
  -- 13: assign t21
  refine' chainP_read (d := (some 8)) _ rfl rfl (fun w' hS' => ?_) ?_; rotate_left
  · simp only [lookP, allP, Act.put, List.getElem?_cons_zero, List.getElem?_cons_succ, List.setIfInBounds_toArray, List.set_cons_zero, List.set_cons_succ]
    (try dsimp only at hS')
    go_simp
    (try with_reducible rfl)
  refine chainP_nil (fun u1 hS' => ?_)
  simp only [allP, Act.put, List.setIfInBounds_toArray, List.set_cons_zero, List.set_cons_succ]
  intro x11 hx11
  have hq1 := hS'.1
  clear hS'
  replace hc := Below.next hc hq1
  replace c0_0 := box_at c0_0 hq1
  replace c0_1 := box_at c0_1 hq1
  replace c0_2 := box_at c0_2 hq1
  replace c1_0 := box_at c1_0 hq1
  replace c1_1 := box_at c1_1 hq1
  clear hq1
  go_wp2_with fail
  refine NoPanic.normal ?_
  go_wp2_with fail
  go_ret
  exact ⟨rfl, HB.out.trans (hc.mono HB.out.size)⟩
end Go.Proofs.Yteemlmmdngkghaa
namespace Go.Proofs.Yteemlmmdngkghaa
open Go.RowKit
set_option linter.unusedSimpArgs false
set_option linter.unusedVariables false

/-- valid bases, but for the group -/
def hbB (gr : GroupD) (bh : Int) (bl : List Int) : Bool := (bh != 1) && (elB gr bh && (decide (bl.length ≤ 24) && ((!decide (1 ∈ bl)) && bl.all (elB gr))))
noncomputable def baB (gr : GroupD) (bh : Int) (bl : List Int) : Bool := goodG gr && hbB gr bh bl
noncomputable def cmB (gr : GroupD) (bh : Int) (bl : List Int) (m r : Int) : Bool := baB gr bh bl && (expB gr m && expB gr r)
noncomputable def cmR (gr : GroupD) (bh : Int) (bl : List Int) (m r : Int) : Int := if cmB gr bh bl m r = true then coM gr bh m r else 0
theorem baB_parts {gr : GroupD} {bh : Int} {bl : List Int} (h : baB gr bh bl = true) : goodG gr = true ∧ elB gr bh = true ∧ bh ≠ 1 ∧ bl.length ≤ 24 ∧ bl.all (elB gr) = true := by
  unfold baB hbB at h
  simp only [Bool.and_eq_true, bne_iff_ne, decide_eq_true_iff] at h
  exact ⟨h.1, h.2.2.1, h.2.1, h.2.2.2.1, h.2.2.2.2.2⟩
set_option maxRecDepth 100000 in
set_option maxHeartbeats 2000000 in
theorem spec_l9Good (gr : GroupD) (bh : Int) (bv : Value) (bl : List Int) (w : World) (hb : Ints w bv bl) (ibh : I64 bh) :
    Calls Try.prog 92 #[.agg #[.int .i64 gr.p, .int .i64 gr.q, .int .i64 gr.g], .agg #[.int .i64 bh, bv]] w fun e w' => e = .returned (.bool (baB gr bh bl)) ∧ Below w.heap.size w w' := by
  obtain ⟨bva, bvn, bvc, rfl⟩ := hb.shape
  have Ebv := Lib.hid hb.len
  have Kbv := Lib.hid hb.capMax
  have Hbv := Lib.hid hb
  clear hb
  cases hc1 : goodG gr with
  | false =>
    have HV : Hid ((.bool (baB gr bh bl) : Value) = .bool false) := by unfold Hid; simp [baB, hbB, hc1]
    rw [HV.out]
    have Hhc1 := Lib.hid hc1
    clear hc1
    obtain ⟨W, hW⟩ : ∃ W, W = (w.alloc (.cells #[.int .i64 gr.p, .int .i64 gr.q, .int .i64 gr.g] 25)).alloc (.cells #[.int .i64 bh, (.slice bva bvn bvc)] 28) := ⟨_, rfl⟩
    have HB : Hid (Below w.heap.size w W) := by unfold Hid; rw [hW]; (repeat (first | exact Below.refl _ _ | assumption | refine Below.drew ?_ | refine Below.alloc ?_ (by first | (simp; done) | (simp; omega)) _ | refine Below.setCell ?_ (by first | (simp; done) | (simp; omega)) _))
    have c0_0 : W.cell? ⟨w.heap.size, 0, none⟩ = some (.int .i64 gr.p) := by rw [hW]; simp [go_sem]
    have c0_1 : W.cell? ⟨w.heap.size, 1, none⟩ = some (.int .i64 gr.q) := by rw [hW]; simp [go_sem]
    have c0_2 : W.cell? ⟨w.heap.size, 2, none⟩ = some (.int .i64 gr.g) := by rw [hW]; simp [go_sem]
    have c1_0 : W.cell? ⟨w.heap.size + 1, 0, none⟩ = some (.int .i64 bh) := by rw [hW]; simp [go_sem]
    have c1_1 : W.cell? ⟨w.heap.size + 1, 1, none⟩ = some ((.slice bva bvn bvc)) := by rw [hW]; simp [go_sem]
    have HSW : Hid (W.heap.size = w.heap.size + 2) := by unfold Hid; rw [hW]; simp
    go_enter Try.func92, Try.ntmps92
    go_wp2_with fail
    rw [← hW]
    clear hW
    have hc : Below W.heap.size W W := Below.refl _ _
    go_wp2_with fail
    refine (spec_l2Good gr _).mono ?_
    rintro e u1 ⟨rfl, hq1⟩
    replace hc := Below.next hc hq1
    replace c0_0 := box_at c0_0 hq1
    replace c0_1 := box_at c0_1 hq1
    replace c0_2 := box_at c0_2 hq1
    replace c1_0 := box_at c1_0 hq1
    replace c1_1 := box_at c1_1 hq1
    clear hq1
    rw [Hhc1.out]
    go_wp2_with fail
    go_ret
    exact ⟨rfl, HB.out.trans (hc.mono HB.out.size)⟩
  | true =>
    have HG := Lib.hid (goodG_ok hc1)
    cases hc2 : (bh != 1) with
    | false =>
      have HV : Hid ((.bool (baB gr bh bl) : Value) = .bool false) := by unfold Hid; simp [baB, hbB, hc1, hc2]
      rw [HV.out]
      have Hhc1 := Lib.hid hc1
      clear hc1
      obtain ⟨W, hW⟩ : ∃ W, W = (w.alloc (.cells #[.int .i64 gr.p, .int .i64 gr.q, .int .i64 gr.g] 25)).alloc (.cells #[.int .i64 bh, (.slice bva bvn bvc)] 28) := ⟨_, rfl⟩
      have HB : Hid (Below w.heap.size w W) := by unfold Hid; rw [hW]; (repeat (first | exact Below.refl _ _ | assumption | refine Below.drew ?_ | refine Below.alloc ?_ (by first | (simp; done) | (simp; omega)) _ | refine Below.setCell ?_ (by first | (simp; done) | (simp; omega)) _))
      have c0_0 : W.cell? ⟨w.heap.size, 0, none⟩ = some (.int .i64 gr.p) := by rw [hW]; simp [go_sem]
      have c0_1 : W.cell? ⟨w.heap.size, 1, none⟩ = some (.int .i64 gr.q) := by rw [hW]; simp [go_sem]
      have c0_2 : W.cell? ⟨w.heap.size, 2, none⟩ = some (.int .i64 gr.g) := by rw [hW]; simp [go_sem]
      have c1_0 : W.cell? ⟨w.heap.size + 1, 0, none⟩ = some (.int .i64 bh) := by rw [hW]; simp [go_sem]
      have c1_1 : W.cell? ⟨w.heap.size + 1, 1, none⟩ = some ((.slice bva bvn bvc)) := by rw [hW]; simp [go_sem]
      have HSW : Hid (W.heap.size = w.heap.size + 2) := by unfold Hid; rw [hW]; simp
      go_enter Try.func92, Try.ntmps92
      go_wp2_with fail
      rw [← hW]
      clear hW
      have hc : Below W.heap.size W W := Below.refl _ _
      go_wp2_with fail
      refine (spec_l2Good gr _).mono ?_
      rintro e u1 ⟨rfl, hq1⟩
      replace hc := Below.next hc hq1
      replace c0_0 := box_at c0_0 hq1
      replace c0_1 := box_at c0_1 hq1
      replace c0_2 := box_at c0_2 hq1
      replace c1_0 := box_at c1_0 hq1
      replace c1_1 := box_at c1_1 hq1
      clear hq1
      rw [Hhc1.out]
      go_wp2_with fail
      go_ret
      exact ⟨rfl, HB.out.trans (hc.mono HB.out.size)⟩
    | true =>
      cases hc3 : [bh].all (elB gr) with
      | false =>
        have HV : Hid ((.bool (baB gr bh bl) : Value) = .bool false) := by unfold Hid; have qhc3 := hc3; simp only [List.all_cons, List.all_nil, Bool.and_true] at qhc3; simp [baB, hbB, hc1, hc2, qhc3]
        rw [HV.out]
        have Hhc1 := Lib.hid hc1
        clear hc1
        have Hhc3 := Lib.hid hc3
        clear hc3
        obtain ⟨W, hW⟩ : ∃ W, W = (w.alloc (.cells #[.int .i64 gr.p, .int .i64 gr.q, .int .i64 gr.g] 25)).alloc (.cells #[.int .i64 bh, (.slice bva bvn bvc)] 28) := ⟨_, rfl⟩
        have HB : Hid (Below w.heap.size w W) := by unfold Hid; rw [hW]; (repeat (first | exact Below.refl _ _ | assumption | refine Below.drew ?_ | refine Below.alloc ?_ (by first | (simp; done) | (simp; omega)) _ | refine Below.setCell ?_ (by first | (simp; done) | (simp; omega)) _))
        have c0_0 : W.cell? ⟨w.heap.size, 0, none⟩ = some (.int .i64 gr.p) := by rw [hW]; simp [go_sem]
        have c0_1 : W.cell? ⟨w.heap.size, 1, none⟩ = some (.int .i64 gr.q) := by rw [hW]; simp [go_sem]
        have c0_2 : W.cell? ⟨w.heap.size, 2, none⟩ = some (.int .i64 gr.g) := by rw [hW]; simp [go_sem]
        have c1_0 : W.cell? ⟨w.heap.size + 1, 0, none⟩ = some (.int .i64 bh) := by rw [hW]; simp [go_sem]
        have c1_1 : W.cell? ⟨w.heap.size + 1, 1, none⟩ = some ((.slice bva bvn bvc)) := by rw [hW]; simp [go_sem]
        have HSW : Hid (W.heap.size = w.heap.size + 2) := by unfold Hid; rw [hW]; simp
        go_enter Try.func92, Try.ntmps92
        go_wp2_with fail
        rw [← hW]
        clear hW
        have hc : Below W.heap.size W W := Below.refl _ _
        go_wp2_with fail
        refine (spec_l2Good gr _).mono ?_
        rintro e u1 ⟨rfl, hq1⟩
        replace hc := Below.next hc hq1
        replace c0_0 := box_at c0_0 hq1
        replace c0_1 := box_at c0_1 hq1
        replace c0_2 := box_at c0_2 hq1
        replace c1_0 := box_at c1_0 hq1
        replace c1_1 := box_at c1_1 hq1
        clear hq1
        rw [Hhc1.out]
        go_wp2_with fail
        refine (spec_gIs gr _ [bh] _ HG.out (OwnI.lit (B := 0) _ (Nat.zero_le _) (l := [bh]) (AllI64.cons ibh AllI64.nil) rfl (by simp [maxLen]) 1 rfl).ints).mono ?_
        rintro e u2 ⟨rfl, hq2⟩
        replace hq2 := Below.next (keep_al (Below.refl _ _) _) hq2
        replace hc := Below.next hc hq2
        replace c0_0 := box_at c0_0 hq2
        replace c0_1 := box_at c0_1 hq2
        replace c0_2 := box_at c0_2 hq2
        replace c1_0 := box_at c1_0 hq2
        replace c1_1 := box_at c1_1 hq2
        clear hq2
        rw [Hhc3.out]
        go_wp2_with fail
        go_ret
        exact ⟨rfl, HB.out.trans (hc.mono HB.out.size)⟩
      | true =>
        cases hc4 : decide ((bvn : Int) ≤ 24) with
        | false =>
          have HLN : Hid (decide (bl.length ≤ 24) = false) := by have e1 := Ebv.out; have q : ¬ (bvn : Int) ≤ 24 := of_decide_eq_false hc4; exact decide_eq_false (by omega)
          have HV : Hid ((.bool (baB gr bh bl) : Value) = .bool false) := by unfold Hid; have qhc3 := hc3; simp only [List.all_cons, List.all_nil, Bool.and_true] at qhc3; simp [baB, hbB, hc1, hc2, qhc3, hc4, HLN.out]
          rw [HV.out]
          have Hhc1 := Lib.hid hc1
          clear hc1
          have Hhc3 := Lib.hid hc3
          clear hc3
          obtain ⟨W, hW⟩ : ∃ W, W = (w.alloc (.cells #[.int .i64 gr.p, .int .i64 gr.q, .int .i64 gr.g] 25)).alloc (.cells #[.int .i64 bh, (.slice bva bvn bvc)] 28) := ⟨_, rfl⟩
          have HB : Hid (Below w.heap.size w W) := by unfold Hid; rw [hW]; (repeat (first | exact Below.refl _ _ | assumption | refine Below.drew ?_ | refine Below.alloc ?_ (by first | (simp; done) | (simp; omega)) _ | refine Below.setCell ?_ (by first | (simp; done) | (simp; omega)) _))
          have c0_0 : W.cell? ⟨w.heap.size, 0, none⟩ = some (.int .i64 gr.p) := by rw [hW]; simp [go_sem]
          have c0_1 : W.cell? ⟨w.heap.size, 1, none⟩ = some (.int .i64 gr.q) := by rw [hW]; simp [go_sem]
          have c0_2 : W.cell? ⟨w.heap.size, 2, none⟩ = some (.int .i64 gr.g) := by rw [hW]; simp [go_sem]
          have c1_0 : W.cell? ⟨w.heap.size + 1, 0, none⟩ = some (.int .i64 bh) := by rw [hW]; simp [go_sem]
          have c1_1 : W.cell? ⟨w.heap.size + 1, 1, none⟩ = some ((.slice bva bvn bvc)) := by rw [hW]; simp [go_sem]
          have HSW : Hid (W.heap.size = w.heap.size + 2) := by unfold Hid; rw [hW]; simp
          go_enter Try.func92, Try.ntmps92
          go_wp2_with fail
          rw [← hW]
          clear hW
          have hc : Below W.heap.size W W := Below.refl _ _
          go_wp2_with fail
          refine (spec_l2Good gr _).mono ?_
          rintro e u1 ⟨rfl, hq1⟩
          replace hc := Below.next hc hq1
          replace c0_0 := box_at c0_0 hq1
          replace c0_1 := box_at c0_1 hq1
          replace c0_2 := box_at c0_2 hq1
          replace c1_0 := box_at c1_0 hq1
          replace c1_1 := box_at c1_1 hq1
          clear hq1
          rw [Hhc1.out]
          go_wp2_with fail
          refine (spec_gIs gr _ [bh] _ HG.out (OwnI.lit (B := 0) _ (Nat.zero_le _) (l := [bh]) (AllI64.cons ibh AllI64.nil) rfl (by simp [maxLen]) 1 rfl).ints).mono ?_
          rintro e u2 ⟨rfl, hq2⟩
          replace hq2 := Below.next (keep_al (Below.refl _ _) _) hq2
          replace hc := Below.next hc hq2
          replace c0_0 := box_at c0_0 hq2
          replace c0_1 := box_at c0_1 hq2
          replace c0_2 := box_at c0_2 hq2
          replace c1_0 := box_at c1_0 hq2
          replace c1_1 := box_at c1_1 hq2
          clear hq2
          rw [Hhc3.out]
          go_wp2_with fail
          go_ret
          exact ⟨rfl, HB.out.trans (hc.mono HB.out.size)⟩
        | true =>
          have HLN : Hid (decide (bl.length ≤ 24) = true) := by have e1 := Ebv.out; have q : (bvn : Int) ≤ 24 := of_decide_eq_true hc4; exact decide_eq_true (by omega)
          cases hc5 : decide (1 ∈ bl) with
          | false =>
            have HV : Hid ((.bool (baB gr bh bl) : Value) = .bool (bl.all (elB gr))) := by unfold Hid; have qhc3 := hc3; simp only [List.all_cons, List.all_nil, Bool.and_true] at qhc3; simp [baB, hbB, hc1, hc2, qhc3, hc4, hc5, HLN.out]
            rw [HV.out]
            have Hhc1 := Lib.hid hc1
            clear hc1
            have Hhc3 := Lib.hid hc3
            clear hc3
            obtain ⟨W, hW⟩ : ∃ W, W = (w.alloc (.cells #[.int .i64 gr.p, .int .i64 gr.q, .int .i64 gr.g] 25)).alloc (.cells #[.int .i64 bh, (.slice bva bvn bvc)] 28) := ⟨_, rfl⟩
            have HB : Hid (Below w.heap.size w W) := by unfold Hid; rw [hW]; (repeat (first | exact Below.refl _ _ | assumption | refine Below.drew ?_ | refine Below.alloc ?_ (by first | (simp; done) | (simp; omega)) _ | refine Below.setCell ?_ (by first | (simp; done) | (simp; omega)) _))
            have c0_0 : W.cell? ⟨w.heap.size, 0, none⟩ = some (.int .i64 gr.p) := by rw [hW]; simp [go_sem]
            have c0_1 : W.cell? ⟨w.heap.size, 1, none⟩ = some (.int .i64 gr.q) := by rw [hW]; simp [go_sem]
            have c0_2 : W.cell? ⟨w.heap.size, 2, none⟩ = some (.int .i64 gr.g) := by rw [hW]; simp [go_sem]
            have c1_0 : W.cell? ⟨w.heap.size + 1, 0, none⟩ = some (.int .i64 bh) := by rw [hW]; simp [go_sem]
            have c1_1 : W.cell? ⟨w.heap.size + 1, 1, none⟩ = some ((.slice bva bvn bvc)) := by rw [hW]; simp [go_sem]
            have HSW : Hid (W.heap.size = w.heap.size + 2) := by unfold Hid; rw [hW]; simp
            go_enter Try.func92, Try.ntmps92
            go_wp2_with fail
            rw [← hW]
            clear hW
            have hc : Below W.heap.size W W := Below.refl _ _
            go_wp2_with fail
            refine (spec_l2Good gr _).mono ?_
            rintro e u1 ⟨rfl, hq1⟩
            replace hc := Below.next hc hq1
            replace c0_0 := box_at c0_0 hq1
            replace c0_1 := box_at c0_1 hq1
            replace c0_2 := box_at c0_2 hq1
            replace c1_0 := box_at c1_0 hq1
            replace c1_1 := box_at c1_1 hq1
            clear hq1
            rw [Hhc1.out]
            go_wp2_with fail
            refine (spec_gIs gr _ [bh] _ HG.out (OwnI.lit (B := 0) _ (Nat.zero_le _) (l := [bh]) (AllI64.cons ibh AllI64.nil) rfl (by simp [maxLen]) 1 rfl).ints).mono ?_
            rintro e u2 ⟨rfl, hq2⟩
            replace hq2 := Below.next (keep_al (Below.refl _ _) _) hq2
            replace hc := Below.next hc hq2
            replace c0_0 := box_at c0_0 hq2
            replace c0_1 := box_at c0_1 hq2
            replace c0_2 := box_at c0_2 hq2
            replace c1_0 := box_at c1_0 hq2
            replace c1_1 := box_at c1_1 hq2
            clear hq2
            rw [Hhc3.out]
            go_wp2_with fail
            refine (spec_l1Has _ bl 1 _ (Hbv.out.below (HB.out.trans (hc.mono HB.out.size)))).mono ?_
            rintro e u3 ⟨rfl, rfl⟩
            rw [hc5]
            go_wp2_with fail
            refine (spec_gIs gr _ bl _ HG.out (Hbv.out.below (HB.out.trans (hc.mono HB.out.size)))).mono ?_
            rintro e u4 ⟨rfl, hq4⟩
            replace hc := Below.next hc hq4
            replace c0_0 := box_at c0_0 hq4
            replace c0_1 := box_at c0_1 hq4
            replace c0_2 := box_at c0_2 hq4
            replace c1_0 := box_at c1_0 hq4
            replace c1_1 := box_at c1_1 hq4
            clear hq4
            go_wp2_with fail
            go_ret
            exact ⟨rfl, HB.out.trans (hc.mono HB.out.size)⟩
          | true =>
            have HV : Hid ((.bool (baB gr bh bl) : Value) = .bool false) := by unfold Hid; have qhc3 := hc3; simp only [List.all_cons, List.all_nil, Bool.and_true] at qhc3; simp [baB, hbB, hc1, hc2, qhc3, hc4, hc5, HLN.out]
            rw [HV.out]
            have Hhc1 := Lib.hid hc1
            clear hc1
            have Hhc3 := Lib.hid hc3
            clear hc3
            obtain ⟨W, hW⟩ : ∃ W, W = (w.alloc (.cells #[.int .i64 gr.p, .int .i64 gr.q, .int .i64 gr.g] 25)).alloc (.cells #[.int .i64 bh, (.slice bva bvn bvc)] 28) := ⟨_, rfl⟩
            have HB : Hid (Below w.heap.size w W) := by unfold Hid; rw [hW]; (repeat (first | exact Below.refl _ _ | assumption | refine Below.drew ?_ | refine Below.alloc ?_ (by first | (simp; done) | (simp; omega)) _ | refine Below.setCell ?_ (by first | (simp; done) | (simp; omega)) _))
            have c0_0 : W.cell? ⟨w.heap.size, 0, none⟩ = some (.int .i64 gr.p) := by rw [hW]; simp [go_sem]
            have c0_1 : W.cell? ⟨w.heap.size, 1, none⟩ = some (.int .i64 gr.q) := by rw [hW]; simp [go_sem]
            have c0_2 : W.cell? ⟨w.heap.size, 2, none⟩ = some (.int .i64 gr.g) := by rw [hW]; simp [go_sem]
            have c1_0 : W.cell? ⟨w.heap.size + 1, 0, none⟩ = some (.int .i64 bh) := by rw [hW]; simp [go_sem]
            have c1_1 : W.cell? ⟨w.heap.size + 1, 1, none⟩ = some ((.slice bva bvn bvc)) := by rw [hW]; simp [go_sem]
            have HSW : Hid (W.heap.size = w.heap.size + 2) := by unfold Hid; rw [hW]; simp
            go_enter Try.func92, Try.ntmps92
            go_wp2_with fail
            rw [← hW]
            clear hW
            have hc : Below W.heap.size W W := Below.refl _ _
            go_wp2_with fail
            refine (spec_l2Good gr _).mono ?_
            rintro e u1 ⟨rfl, hq1⟩
            replace hc := Below.next hc hq1
            replace c0_0 := box_at c0_0 hq1
            replace c0_1 := box_at c0_1 hq1
            replace c0_2 := box_at c0_2 hq1
            replace c1_0 := box_at c1_0 hq1
            replace c1_1 := box_at c1_1 hq1
            clear hq1
            rw [Hhc1.out]
            go_wp2_with fail
            refine (spec_gIs gr _ [bh] _ HG.out (OwnI.lit (B := 0) _ (Nat.zero_le _) (l := [bh]) (AllI64.cons ibh AllI64.nil) rfl (by simp [maxLen]) 1 rfl).ints).mono ?_
            rintro e u2 ⟨rfl, hq2⟩
            replace hq2 := Below.next (keep_al (Below.refl _ _) _) hq2
            replace hc := Below.next hc hq2
            replace c0_0 := box_at c0_0 hq2
            replace c0_1 := box_at c0_1 hq2
            replace c0_2 := box_at c0_2 hq2
            replace c1_0 := box_at c1_0 hq2
            replace c1_1 := box_at c1_1 hq2
            clear hq2
            rw [Hhc3.out]
            go_wp2_with fail
            refine (spec_l1Has _ bl 1 _ (Hbv.out.below (HB.out.trans (hc.mono HB.out.size)))).mono ?_
            rintro e u3 ⟨rfl, rfl⟩
            rw [hc5]
            go_wp2_with fail
            go_ret
            exact ⟨rfl, HB.out.trans (hc.mono HB.out.size)⟩
theorem hbB_cons (gr : GroupD) (bh : Int) (bl : List Int) : (decide (bl.length ≤ 24) && (bh :: bl).all fun x => x != 1 && elB gr x) = hbB gr bh bl := by
  unfold hbB
  rw [List.all_cons]
  have h : (bl.all fun x => x != 1 && elB gr x) = ((!decide (1 ∈ bl)) && bl.all (elB gr)) := by
    induction bl with
    | nil => simp
    | cons a l ih =>
      rw [List.all_cons, ih, List.all_cons, Bool.eq_iff_iff]
      simp only [Bool.and_eq_true, bne_iff_ne, Bool.not_eq_true', decide_eq_false_iff_not, List.mem_cons, not_or]
      constructor
      · rintro ⟨⟨h1, h2⟩, h3, h4⟩; exact ⟨⟨fun e => h1 e.symm, h3⟩, h2, h4⟩
      · rintro ⟨⟨h1, h2⟩, h3, h4⟩; exact ⟨⟨fun e => h1 e.symm, h3⟩, h2, h4⟩
  rw [h]
  cases (bh != 1) <;> cases elB gr bh <;> cases decide (bl.length ≤ 24) <;> simp
theorem wpList_append_intsG {ops : Array Oper} {rest : List Oper} {o : Oper} {a : Act} {w : World} {Q : Exit → Act → World → Prop} (hg : Region.wanted o (yielded ops a.tmps) = true) (s x : Operand)
    (ho : o.op = .call { callee := .builtin .append, args := #[s, x], argTypes := #[26, 26] })
    (B : Nat) (v y : Value) (l m : List Int) (hs : a.eval s = v) (hown : OwnI w B v l) (hx : a.eval x = y) (hy : Ints w y m) (hlen : l.length + m.length ≤ 1000000000000) (hB : B ≤ w.heap.size)
    (hK : ∀ v' w', OwnI w' B v' (l ++ m) → w.grownBy w' v.ownBlock → wpList Try.prog ops Q rest (a.put o.dst v') w') : wpList Try.prog ops Q (o :: rest) a w := by
  obtain ⟨v', w', hr, h1, h2⟩ := run_append_ints (t := 26) rfl hown hy hlen hB o.type
  refine wpList_step fun K hK' => ?_
  rw [if_pos hg]
  unfold Oper.wp execOp
  simp only [ho, resolve, invoke, builtin, Sem.run_bind, Sem.run_pure, Result.andThen_ok, List.map_toArray, List.map_cons, List.map_nil, hs, hx, hr]
  exact hK' _ _ (hK v' w' h1 h2)
set_option maxHeartbeats 1000000 in
theorem impl_hasBases1 (gr : GroupD) (x : Int) (b : Nat) (w : World) (hg : OkG gr) (hx : BoxN w b 25 [.int .i64 gr.p, .int .i64 gr.q, .int .i64 gr.g]) :
    Calls Try.prog 275 #[.int .i64 x, .pointer (some ⟨b, 0, none⟩)] w fun e w' => e = .returned (.bool (x != 1 && elB gr x)) ∧ Below w.heap.size w w' := by
  have HG := Lib.hid hg
  clear hg
  have e0 := hx.cell (i := 0) rfl
  have e1 := hx.cell (i := 1) rfl
  have e2 := hx.cell (i := 2) rfl
  clear hx
  cases h1 : (x != 1) with
  | false =>
    go_enter Try.func275, Try.ntmps275
    go_wp2_with fail
    go_ret
    exact ⟨ret_bool (by simp), Below.refl _ _⟩
  | true =>
    go_enter Try.func275, Try.ntmps275
    go_wp2_with fail
    refine (impl_has gr x _ HG.out).mono ?_
    rintro e w1 ⟨rfl, hb1⟩
    go_wp2_with fail
    go_ret
    exact ⟨ret_bool (by simp), hb1⟩
set_option maxRecDepth 100000 in
set_option maxHeartbeats 2000000 in
theorem impl_hasBases (gr : GroupD) (bh : Int) (bv : Value) (bl : List Int) (w : World) (hg : OkG gr) (hb : Ints w bv bl) (ibh : I64 bh) :
    Calls Try.prog 217 #[.agg #[.int .i64 gr.p, .int .i64 gr.q, .int .i64 gr.g], .agg #[.int .i64 bh, bv]] w fun e w' => e = .returned (.bool (hbB gr bh bl)) ∧ Below w.heap.size w w' := by
  have HEQ := Lib.hid (hbB_cons gr bh bl)
  have HG := Lib.hid hg
  clear hg
  obtain ⟨bva, bvn, bvc, rfl⟩ := hb.shape
  have Ebv := Lib.hid hb.len
  have Hbv := Lib.hid hb
  clear hb
  rw [← HEQ.out]
  by_cases hn : (bvn : Int) ≤ 24
  · have hd : decide ((bvn : Int) ≤ 24) = true := decide_eq_true hn
    have hd2 : decide (bl.length ≤ 24) = true := decide_eq_true (by have := Ebv.out; omega)
    rw [hd2, Bool.true_and]
    clear hd2
    have HLL : Hid (bl.length ≤ 24) := by have := Ebv.out; unfold Hid; omega
    have HOL : Hid (OwnI (((w.alloc (.cells #[.int .i64 gr.p, .int .i64 gr.q, .int .i64 gr.g] 25)).alloc (.cells #[.int .i64 bh, .slice bva bvn bvc] 28)).alloc (.cells #[.int .i64 bh] 3)) (w.heap.size + 1 + 1) (.slice (some ⟨w.heap.size + 1 + 1, 0, none⟩) 1 1) [bh]) := by unfold Hid; have h := OwnI.lit (B := w.heap.size + 1 + 1) ((w.alloc (.cells #[.int .i64 gr.p, .int .i64 gr.q, .int .i64 gr.g] 25)).alloc (.cells #[.int .i64 bh, .slice bva bvn bvc] 28)) (by simp) (cs := #[.int .i64 bh]) (l := [bh]) (AllI64.one ibh) rfl (by simp [maxLen]) 1 rfl; simpa using h
    go_enter Try.func217, Try.ntmps217
    go_wp2_with (at_builtin; refine wpList_append_intsG (by kernel_rfl) _ _ rfl (w.heap.size + 1 + 1) _ _ [bh] bl rfl HOL.out rfl (by exact Hbv.out.below (by (repeat (first | exact Below.refl _ _ | assumption | refine Below.drew ?_ | refine Below.alloc ?_ (by first | (simp; done) | (simp; omega)) _ | refine Below.setCell ?_ (by first | (simp; done) | (simp; omega)) _)))) (by have := HLL.out; first | omega | (simp; done) | (simp; omega)) (by first | (simp; done) | (simp; omega) | omega) ?_; intro v4 w4 hown4 hgr4)
    have hb4 := OwnI.grown HOL.out hgr4 (by first | (simp; done) | (simp; omega) | omega)
    have HXE : Hid (BoxN w4 w.heap.size 25 [.int .i64 gr.p, .int .i64 gr.q, .int .i64 gr.g]) := (hb4.block w.heap.size (by omega)).trans (((BoxN.new w _ _).alloc _).alloc _)
    have HBB : Hid (Below w.heap.size w w4) := (show Below w.heap.size w _ by (repeat (first | exact Below.refl _ _ | assumption | refine Below.drew ?_ | refine Below.alloc ?_ (by first | (simp; done) | (simp; omega)) _ | refine Below.setCell ?_ (by first | (simp; done) | (simp; omega)) _))).trans (hb4.mono (by omega))
    have HO := Lib.hid hown4
    clear hb4 hown4 hgr4
    have HD : Hid (Decides w4 275 #[.pointer (some ⟨w.heap.size, 0, none⟩)] (fun x => x != 1 && elB gr x)) := ⟨Try.call275, fun x wr hx hb => impl_hasBases1 gr x _ wr HG.out (HXE.out.below hb)⟩
    go_wp2_with fail
    refine (impl_areAll _ (bh :: bl) _ _ (fun x => x != 1 && elB gr x) _ (by simpa using HO.out.ints) HD.out).mono ?_
    rintro e w5 ⟨rfl, hb5⟩
    go_wp2_with fail
    go_ret
    exact ⟨rfl, HBB.out.trans (hb5.mono HBB.out.size)⟩
  · have hd : decide ((bvn : Int) ≤ 24) = false := decide_eq_false hn
    have hd2 : decide (bl.length ≤ 24) = false := decide_eq_false (by have := Ebv.out; omega)
    rw [hd2, Bool.false_and]
    clear hd2
    go_enter Try.func217, Try.ntmps217
    go_wp2_with fail
    go_ret
    exact ⟨rfl, by (repeat (first | exact Below.refl _ _ | assumption | refine Below.drew ?_ | refine Below.alloc ?_ (by first | (simp; done) | (simp; omega)) _ | refine Below.setCell ?_ (by first | (simp; done) | (simp; omega)) _))⟩
set_option maxRecDepth 100000 in
set_option maxHeartbeats 2000000 in
theorem impl_IsValidBases (gr : GroupD) (bh : Int) (bv : Value) (bl : List Int) (w : World) (hb : Ints w bv bl) (ibh : I64 bh) :
    Calls Try.prog 86 #[.agg #[.int .i64 gr.p, .int .i64 gr.q, .int .i64 gr.g], .agg #[.int .i64 bh, bv]] w fun e w' => e = .returned (.bool (baB gr bh bl)) ∧ Below w.heap.size w w' := by
  obtain ⟨bva, bvn, bvc, rfl⟩ := hb.shape
  have Ebv := Lib.hid hb.len
  have Kbv := Lib.hid hb.capMax
  have Hbv := Lib.hid hb
  clear hb
  cases hc1 : goodG gr with
  | false =>
    have HV : Hid ((.bool (baB gr bh bl) : Value) = .bool false) := by unfold Hid; simp [baB, hc1]
    rw [HV.out]
    have Hhc1 := Lib.hid hc1
    clear hc1
    obtain ⟨W, hW⟩ : ∃ W, W = (w.alloc (.cells #[.int .i64 gr.p, .int .i64 gr.q, .int .i64 gr.g] 25)).alloc (.cells #[.int .i64 bh, (.slice bva bvn bvc)] 28) := ⟨_, rfl⟩
    have HB : Hid (Below w.heap.size w W) := by unfold Hid; rw [hW]; (repeat (first | exact Below.refl _ _ | assumption | refine Below.drew ?_ | refine Below.alloc ?_ (by first | (simp; done) | (simp; omega)) _ | refine Below.setCell ?_ (by first | (simp; done) | (simp; omega)) _))
    have c0_0 : W.cell? ⟨w.heap.size, 0, none⟩ = some (.int .i64 gr.p) := by rw [hW]; simp [go_sem]
    have c0_1 : W.cell? ⟨w.heap.size, 1, none⟩ = some (.int .i64 gr.q) := by rw [hW]; simp [go_sem]
    have c0_2 : W.cell? ⟨w.heap.size, 2, none⟩ = some (.int .i64 gr.g) := by rw [hW]; simp [go_sem]
    have c1_0 : W.cell? ⟨w.heap.size + 1, 0, none⟩ = some (.int .i64 bh) := by rw [hW]; simp [go_sem]
    have c1_1 : W.cell? ⟨w.heap.size + 1, 1, none⟩ = some ((.slice bva bvn bvc)) := by rw [hW]; simp [go_sem]
    have HSW : Hid (W.heap.size = w.heap.size + 2) := by unfold Hid; rw [hW]; simp
    go_enter Try.func86, Try.ntmps86
    go_wp2_with fail
    rw [← hW]
    clear hW
    have hc : Below W.heap.size W W := Below.refl _ _
    go_wp2_with fail
    refine (impl_IsValidGroup gr _).mono ?_
    rintro e u1 ⟨rfl, hq1⟩
    replace hc := Below.next hc hq1
    replace c0_0 := box_at c0_0 hq1
    replace c0_1 := box_at c0_1 hq1
    replace c0_2 := box_at c0_2 hq1
    replace c1_0 := box_at c1_0 hq1
    replace c1_1 := box_at c1_1 hq1
    clear hq1
    rw [Hhc1.out]
    go_wp2_with fail
    go_ret
    exact ⟨rfl, HB.out.trans (hc.mono HB.out.size)⟩
  | true =>
    have HG := Lib.hid (goodG_ok hc1)
    have HV : Hid ((.bool (baB gr bh bl) : Value) = .bool (hbB gr bh bl)) := by unfold Hid; simp [baB, hc1]
    rw [HV.out]
    have Hhc1 := Lib.hid hc1
    clear hc1
    obtain ⟨W, hW⟩ : ∃ W, W = (w.alloc (.cells #[.int .i64 gr.p, .int .i64 gr.q, .int .i64 gr.g] 25)).alloc (.cells #[.int .i64 bh, (.slice bva bvn bvc)] 28) := ⟨_, rfl⟩
    have HB : Hid (Below w.heap.size w W) := by unfold Hid; rw [hW]; (repeat (first | exact Below.refl _ _ | assumption | refine Below.drew ?_ | refine Below.alloc ?_ (by first | (simp; done) | (simp; omega)) _ | refine Below.setCell ?_ (by first | (simp; done) | (simp; omega)) _))
    have c0_0 : W.cell? ⟨w.heap.size, 0, none⟩ = some (.int .i64 gr.p) := by rw [hW]; simp [go_sem]
    have c0_1 : W.cell? ⟨w.heap.size, 1, none⟩ = some (.int .i64 gr.q) := by rw [hW]; simp [go_sem]
    have c0_2 : W.cell? ⟨w.heap.size, 2, none⟩ = some (.int .i64 gr.g) := by rw [hW]; simp [go_sem]
    have c1_0 : W.cell? ⟨w.heap.size + 1, 0, none⟩ = some (.int .i64 bh) := by rw [hW]; simp [go_sem]
    have c1_1 : W.cell? ⟨w.heap.size + 1, 1, none⟩ = some ((.slice bva bvn bvc)) := by rw [hW]; simp [go_sem]
    have HSW : Hid (W.heap.size = w.heap.size + 2) := by unfold Hid; rw [hW]; simp
    go_enter Try.func86, Try.ntmps86
    go_wp2_with fail
    rw [← hW]
    clear hW
    have hc : Below W.heap.size W W := Below.refl _ _
    go_wp2_with fail
    refine (impl_IsValidGroup gr _).mono ?_
    rintro e u1 ⟨rfl, hq1⟩
    replace hc := Below.next hc hq1
    replace c0_0 := box_at c0_0 hq1
    replace c0_1 := box_at c0_1 hq1
    replace c0_2 := box_at c0_2 hq1
    replace c1_0 := box_at c1_0 hq1
    replace c1_1 := box_at c1_1 hq1
    clear hq1
    rw [Hhc1.out]
    go_wp2_with fail
    refine (impl_hasBases gr bh _ bl _ HG.out (Hbv.out.below (HB.out.trans (hc.mono HB.out.size))) ibh).mono ?_
    rintro e u2 ⟨rfl, hq2⟩
    replace hc := Below.next hc hq2
    replace c0_0 := box_at c0_0 hq2
    replace c0_1 := box_at c0_1 hq2
    replace c0_2 := box_at c0_2 hq2
    replace c1_0 := box_at c1_0 hq2
    replace c1_1 := box_at c1_1 hq2
    clear hq2
    go_wp2_with fail
    go_ret
    exact ⟨rfl, HB.out.trans (hc.mono HB.out.size)⟩
set_option maxRecDepth 100000 in
set_option maxHeartbeats 2000000 in
theorem spec_Commit (gr : GroupD) (bh : Int) (bv : Value) (bl : List Int) (m r : Int) (w : World) (hb : Ints w bv bl) (ibh : I64 bh) (hm : I64 m) (hr : I64 r) :
    Calls Try.prog 16 #[.agg #[.int .i64 gr.p, .int .i64 gr.q, .int .i64 gr.g], .agg #[.int .i64 bh, bv], .int .i64 m, .int .i64 r] w fun e w' => e = .returned (.tuple #[.int .i64 (cmR gr bh bl m r), .bool (cmB gr bh bl m r)]) ∧ Below w.heap.size w w' := by
  obtain ⟨bva, bvn, bvc, rfl⟩ := hb.shape
  have Ebv := Lib.hid hb.len
  have Kbv := Lib.hid hb.capMax
  have Hbv := Lib.hid hb
  clear hb
  cases hc1 : baB gr bh bl with
  | false =>
    have HV : Hid ((.tuple #[.int .i64 (cmR gr bh bl m r), .bool (cmB gr bh bl m r)] : Value) = .tuple #[.int .i64 0, .bool false]) := by unfold Hid; simp [cmR, cmB, hc1]
    rw [HV.out]
    have Hhc1 := Lib.hid hc1
    clear hc1
    obtain ⟨W, hW⟩ : ∃ W, W = (w.alloc (.cells #[.int .i64 gr.p, .int .i64 gr.q, .int .i64 gr.g] 25)).alloc (.cells #[.int .i64 bh, (.slice bva bvn bvc)] 28) := ⟨_, rfl⟩
    have HB : Hid (Below w.heap.size w W) := by unfold Hid; rw [hW]; (repeat (first | exact Below.refl _ _ | assumption | refine Below.drew ?_ | refine Below.alloc ?_ (by first | (simp; done) | (simp; omega)) _ | refine Below.setCell ?_ (by first | (simp; done) | (simp; omega)) _))
    have c0_0 : W.cell? ⟨w.heap.size, 0, none⟩ = some (.int .i64 gr.p) := by rw [hW]; simp [go_sem]
    have c0_1 : W.cell? ⟨w.heap.size, 1, none⟩ = some (.int .i64 gr.q) := by rw [hW]; simp [go_sem]
    have c0_2 : W.cell? ⟨w.heap.size, 2, none⟩ = some (.int .i64 gr.g) := by rw [hW]; simp [go_sem]
    have c1_0 : W.cell? ⟨w.heap.size + 1, 0, none⟩ = some (.int .i64 bh) := by rw [hW]; simp [go_sem]
    have c1_1 : W.cell? ⟨w.heap.size + 1, 1, none⟩ = some ((.slice bva bvn bvc)) := by rw [hW]; simp [go_sem]
    have HSW : Hid (W.heap.size = w.heap.size + 2) := by unfold Hid; rw [hW]; simp
    go_enter Try.func16, Try.ntmps16
    go_wp2_with fail
    rw [← hW]
    clear hW
    have hc : Below W.heap.size W W := Below.refl _ _
    go_wp2_with fail
    refine (spec_l9Good gr bh _ bl _ (Hbv.out.below (HB.out.trans (hc.mono HB.out.size))) ibh).mono ?_
    rintro e u1 ⟨rfl, hq1⟩
    replace hc := Below.next hc hq1
    replace c0_0 := box_at c0_0 hq1
    replace c0_1 := box_at c0_1 hq1
    replace c0_2 := box_at c0_2 hq1
    replace c1_0 := box_at c1_0 hq1
    replace c1_1 := box_at c1_1 hq1
    clear hq1
    rw [Hhc1.out]
    go_wp2_with fail
    go_ret2
    exact ⟨rfl, HB.out.trans (hc.mono HB.out.size)⟩
  | true =>
    have HBA := Lib.hid (baB_parts hc1)
    have HG := Lib.hid (goodG_ok HBA.out.1)
    have sbh : Small bh := elB_small HG.out HBA.out.2.1
    cases hc2 : [m, r].all (expB gr) with
    | false =>
      have HV : Hid ((.tuple #[.int .i64 (cmR gr bh bl m r), .bool (cmB gr bh bl m r)] : Value) = .tuple #[.int .i64 0, .bool false]) := by unfold Hid; have qhc2 := hc2; simp only [List.all_cons, List.all_nil, Bool.and_true] at qhc2; simp [cmR, cmB, hc1, qhc2]
      rw [HV.out]
      have Hhc1 := Lib.hid hc1
      clear hc1
      have Hhc2 := Lib.hid hc2
      clear hc2
      obtain ⟨W, hW⟩ : ∃ W, W = (w.alloc (.cells #[.int .i64 gr.p, .int .i64 gr.q, .int .i64 gr.g] 25)).alloc (.cells #[.int .i64 bh, (.slice bva bvn bvc)] 28) := ⟨_, rfl⟩
      have HB : Hid (Below w.heap.size w W) := by unfold Hid; rw [hW]; (repeat (first | exact Below.refl _ _ | assumption | refine Below.drew ?_ | refine Below.alloc ?_ (by first | (simp; done) | (simp; omega)) _ | refine Below.setCell ?_ (by first | (simp; done) | (simp; omega)) _))
      have c0_0 : W.cell? ⟨w.heap.size, 0, none⟩ = some (.int .i64 gr.p) := by rw [hW]; simp [go_sem]
      have c0_1 : W.cell? ⟨w.heap.size, 1, none⟩ = some (.int .i64 gr.q) := by rw [hW]; simp [go_sem]
      have c0_2 : W.cell? ⟨w.heap.size, 2, none⟩ = some (.int .i64 gr.g) := by rw [hW]; simp [go_sem]
      have c1_0 : W.cell? ⟨w.heap.size + 1, 0, none⟩ = some (.int .i64 bh) := by rw [hW]; simp [go_sem]
      have c1_1 : W.cell? ⟨w.heap.size + 1, 1, none⟩ = some ((.slice bva bvn bvc)) := by rw [hW]; simp [go_sem]
      have HSW : Hid (W.heap.size = w.heap.size + 2) := by unfold Hid; rw [hW]; simp
      go_enter Try.func16, Try.ntmps16
      go_wp2_with fail
      rw [← hW]
      clear hW
      have hc : Below W.heap.size W W := Below.refl _ _
      go_wp2_with fail
      refine (spec_l9Good gr bh _ bl _ (Hbv.out.below (HB.out.trans (hc.mono HB.out.size))) ibh).mono ?_
      rintro e u1 ⟨rfl, hq1⟩
      replace hc := Below.next hc hq1
      replace c0_0 := box_at c0_0 hq1
      replace c0_1 := box_at c0_1 hq1
      replace c0_2 := box_at c0_2 hq1
      replace c1_0 := box_at c1_0 hq1
      replace c1_1 := box_at c1_1 hq1
      clear hq1
      rw [Hhc1.out]
      go_wp2_with fail
      refine (spec_gExps gr _ [m, r] _ HG.out (OwnI.lit (B := 0) _ (Nat.zero_le _) (l := [m, r]) (AllI64.cons hm (AllI64.cons hr AllI64.nil)) rfl (by simp [maxLen]) 2 rfl).ints).mono ?_
      rintro e u2 ⟨rfl, hq2⟩
      replace hq2 := Below.next (keep_al (Below.refl _ _) _) hq2
      replace hc := Below.next hc hq2
      replace c0_0 := box_at c0_0 hq2
      replace c0_1 := box_at c0_1 hq2
      replace c0_2 := box_at c0_2 hq2
      replace c1_0 := box_at c1_0 hq2
      replace c1_1 := box_at c1_1 hq2
      clear hq2
      rw [Hhc2.out]
      go_wp2_with fail
      go_ret2
      exact ⟨rfl, HB.out.trans (hc.mono HB.out.size)⟩
    | true =>
      have HV : Hid ((.tuple #[.int .i64 (cmR gr bh bl m r), .bool (cmB gr bh bl m r)] : Value) = .tuple #[.int .i64 (coM gr bh m r), .bool true]) := by unfold Hid; have qhc2 := hc2; simp only [List.all_cons, List.all_nil, Bool.and_true] at qhc2; simp [cmR, cmB, hc1, qhc2]
      rw [HV.out]
      have Hhc1 := Lib.hid hc1
      clear hc1
      have Hhc2 := Lib.hid hc2
      clear hc2
      obtain ⟨W, hW⟩ : ∃ W, W = (w.alloc (.cells #[.int .i64 gr.p, .int .i64 gr.q, .int .i64 gr.g] 25)).alloc (.cells #[.int .i64 bh, (.slice bva bvn bvc)] 28) := ⟨_, rfl⟩
      have HB : Hid (Below w.heap.size w W) := by unfold Hid; rw [hW]; (repeat (first | exact Below.refl _ _ | assumption | refine Below.drew ?_ | refine Below.alloc ?_ (by first | (simp; done) | (simp; omega)) _ | refine Below.setCell ?_ (by first | (simp; done) | (simp; omega)) _))
      have c0_0 : W.cell? ⟨w.heap.size, 0, none⟩ = some (.int .i64 gr.p) := by rw [hW]; simp [go_sem]
      have c0_1 : W.cell? ⟨w.heap.size, 1, none⟩ = some (.int .i64 gr.q) := by rw [hW]; simp [go_sem]
      have c0_2 : W.cell? ⟨w.heap.size, 2, none⟩ = some (.int .i64 gr.g) := by rw [hW]; simp [go_sem]
      have c1_0 : W.cell? ⟨w.heap.size + 1, 0, none⟩ = some (.int .i64 bh) := by rw [hW]; simp [go_sem]
      have c1_1 : W.cell? ⟨w.heap.size + 1, 1, none⟩ = some ((.slice bva bvn bvc)) := by rw [hW]; simp [go_sem]
      have HSW : Hid (W.heap.size = w.heap.size + 2) := by unfold Hid; rw [hW]; simp
      go_enter Try.func16, Try.ntmps16
      go_wp2_with fail
      rw [← hW]
      clear hW
      have hc : Below W.heap.size W W := Below.refl _ _
      go_wp2_with fail
      refine (spec_l9Good gr bh _ bl _ (Hbv.out.below (HB.out.trans (hc.mono HB.out.size))) ibh).mono ?_
      rintro e u1 ⟨rfl, hq1⟩
      replace hc := Below.next hc hq1
      replace c0_0 := box_at c0_0 hq1
      replace c0_1 := box_at c0_1 hq1
      replace c0_2 := box_at c0_2 hq1
      replace c1_0 := box_at c1_0 hq1
      replace c1_1 := box_at c1_1 hq1
      clear hq1
      rw [Hhc1.out]
      go_wp2_with fail
      refine (spec_gExps gr _ [m, r] _ HG.out (OwnI.lit (B := 0) _ (Nat.zero_le _) (l := [m, r]) (AllI64.cons hm (AllI64.cons hr AllI64.nil)) rfl (by simp [maxLen]) 2 rfl).ints).mono ?_
      rintro e u2 ⟨rfl, hq2⟩
      replace hq2 := Below.next (keep_al (Below.refl _ _) _) hq2
      replace hc := Below.next hc hq2
      replace c0_0 := box_at c0_0 hq2
      replace c0_1 := box_at c0_1 hq2
      replace c0_2 := box_at c0_2 hq2
      replace c1_0 := box_at c1_0 hq2
      replace c1_1 := box_at c1_1 hq2
      clear hq2
      rw [Hhc2.out]
      go_wp2_with fail
      refine (spec_pCommit gr bh _ bl m r _ HG.out (Hbv.out.below (HB.out.trans (hc.mono HB.out.size))) sbh hm hr).mono ?_
      rintro e u3 ⟨rfl, hq3⟩
      replace hc := Below.next hc hq3
      replace c0_0 := box_at c0_0 hq3
      replace c0_1 := box_at c0_1 hq3
      replace c0_2 := box_at c0_2 hq3
      replace c1_0 := box_at c1_0 hq3
      replace c1_1 := box_at c1_1 hq3
      clear hq3
      go_wp2_with fail
      go_ret2
      exact ⟨rfl, HB.out.trans (hc.mono HB.out.size)⟩
theorem cmB_parts {gr : GroupD} {bh m r : Int} {bl : List Int} (h : cmB gr bh bl m r = true) : baB gr bh bl = true ∧ expB gr m = true ∧ expB gr r = true := by
  unfold cmB at h
  simp only [Bool.and_eq_true] at h
  exact ⟨h.1, h.2.1, h.2.2⟩
end Go.Proofs.Yteemlmmdngkghaa
namespace Go.Proofs.Yteemlmmdngkghaa
open Go.RowKit
set_option linter.unusedSimpArgs false
set_option linter.unusedVariables false

/-- the k-th power -/
def yE (gr : GroupD) (b : Int) (k : Nat) : Int := powM b k gr.p
theorem yE_add (gr : GroupD) (b : Int) (a d : Nat) (h : yE gr b d = 1) : yE gr b (a + d) = yE gr b a := by
  have h' : b ^ d % gr.p = 1 := h
  show b ^ (a + d) % gr.p = b ^ a % gr.p
  rw [Int.pow_add, ← emod_mul_right, h', Int.mul_one]
theorem yE_mod (gr : GroupD) (b : Int) {d : Nat} (hd : 0 < d) (h : yE gr b d = 1) (j : Nat) : yE gr b j = yE gr b (j % d) := by
  induction j using Nat.strongRecOn with
  | ind j ih =>
    rcases Nat.lt_or_ge j d with hlt | hge
    · rw [Nat.mod_eq_of_lt hlt]
    · have e : j = (j - d) + d := by omega
      have h1 := ih (j - d) (by omega)
      rw [Nat.mod_eq_sub_mod hge, ← h1, ← yE_add gr b (j - d) d h, ← e]
theorem elB_pow {gr : GroupD} {x : Int} (h : elB gr x = true) : powM x gr.q gr.p = 1 := by
  unfold elB at h; simp only [Bool.and_eq_true, beq_iff_eq] at h; exact h.2
end Go.Proofs.Yteemlmmdngkghaa
namespace Go.Proofs.Yteemlmmdngkghaa
open Go.RowKit
set_option linter.unusedSimpArgs false
set_option linter.unusedVariables false

/-- the product of two residues -/
theorem mulT {gr : GroupD} (a b : Int) : mulL gr [a, b] = a * b % gr.p := by
  unfold mulL
  simp only [List.foldl_cons, List.foldl_nil, Int.one_mul]
  rw [emod_mul_left]
theorem elT {gr : GroupD} (hg : OkG gr) {x : Int} (h0 : 0 ≤ x) (h1 : x < gr.p) (h : powM x gr.q gr.p = 1) : elB gr x = true := by
  have hp := hg.p1
  have hq := hg.q1
  have h2 : x ≠ 0 := fun h3 => by
    rw [h3] at h
    unfold powM at h
    obtain ⟨n, hn⟩ : ∃ n, gr.q.toNat = n + 1 := ⟨gr.q.toNat - 1, by omega⟩
    rw [hn, Int.pow_succ, Int.mul_zero] at h
    simp at h
  unfold elB
  rw [h, Bool.and_eq_true, decide_eq_true_iff]
  exact ⟨by omega, rfl⟩
theorem elT_mod {gr : GroupD} (hg : OkG gr) {x : Int} (h : elB gr x = true) : x % gr.p = x := by
  obtain ⟨h1, h2⟩ := elB_bd h
  exact Int.emod_eq_of_lt (by omega) (by omega)
theorem elT_mul {gr : GroupD} (hg : OkG gr) {a b : Int} (ha : elB gr a = true) (hb : elB gr b = true) : elB gr (a * b % gr.p) = true := by
  have hp := hg.p1
  refine elT hg (Int.emod_nonneg _ (by omega)) (Int.emod_lt_of_pos _ (by omega)) ?_
  have h1 := elB_pow ha
  have h2 := elB_pow hb
  unfold powM at h1 h2 ⊢
  rw [emod_pow, Int.mul_pow, Int.mul_emod, h1, h2]
  exact Int.emod_eq_of_lt (by omega) (by omega)
theorem elT_gen {gr : GroupD} (h : goodG gr = true) : elB gr gr.g = true := by
  have hg := goodG_ok h
  refine elT hg (by have := hg.g1; omega) (by have := hg.g2; omega) ?_
  unfold goodG at h
  simp only [Bool.and_eq_true, beq_iff_eq] at h
  exact h.2.2.2.2.2.2
theorem pow_one_mod {a p : Int} (hp : 1 < p) (h : a % p = 1) (k : Nat) : a ^ k % p = 1 := by
  rw [← emod_pow, h, Int.one_pow]
  exact Int.emod_eq_of_lt (by omega) hp
theorem elT_pow {gr : GroupD} (hg : OkG gr) {x : Int} (h : elB gr x = true) (e : Int) : elB gr (powE gr x e) = true := by
  have hp := hg.p1
  obtain ⟨h1, h2⟩ := powE_bd hg x e
  refine elT hg h1 h2 ?_
  have h3 := elB_pow h
  unfold powM at h3
  unfold powE powM
  rw [emod_pow, ← Int.pow_mul, Nat.mul_comm, Int.pow_mul]
  exact pow_one_mod (by omega) h3 _
theorem powE_emod (gr : GroupD) (x e : Int) : powE gr x (e % gr.q) = powE gr x e := by
  unfold powE; rw [Int.emod_emod]
/-- a power of an element goes by the residue of the exponent -/
theorem powE_nat {gr : GroupD} (hg : OkG gr) {x : Int} (h : elB gr x = true) (k : Nat) : powE gr x (k : Int) = x ^ k % gr.p := by
  have hq := hg.q1
  have h1 := elB_pow h
  obtain ⟨d, hd⟩ : ∃ d : Nat, gr.q = d := ⟨gr.q.toNat, by omega⟩
  have h2 : yE gr x d = 1 := by rw [hd] at h1; exact h1
  have h3 := yE_mod gr x (d := d) (by omega) h2 k
  have e1 : ((k : Int) % gr.q) = ((k % d : Nat) : Int) := by rw [hd]; omega
  show powM x ((k : Int) % gr.q) gr.p = x ^ k % gr.p
  rw [e1]
  exact h3.symm
theorem powE_add {gr : GroupD} (hg : OkG gr) {x : Int} (h : elB gr x = true) (a b : Int) : powE gr x (a + b) = powE gr x a * powE gr x b % gr.p := by
  have hq := hg.q1
  have e1 : 0 ≤ a % gr.q := Int.emod_nonneg _ (by omega)
  have e2 : 0 ≤ b % gr.q := Int.emod_nonneg _ (by omega)
  obtain ⟨i, hi⟩ : ∃ i : Nat, a % gr.q = i := ⟨(a % gr.q).toNat, by omega⟩
  obtain ⟨j, hj⟩ : ∃ j : Nat, b % gr.q = j := ⟨(b % gr.q).toNat, by omega⟩
  rw [← powE_emod gr x (a + b), Int.add_emod, hi, hj, powE_emod, ← powE_emod gr x a, ← powE_emod gr x b, hi, hj, powE_nat hg h, powE_nat hg h, show ((i : Int) + (j : Int)) = ((i + j : Nat) : Int) by omega, powE_nat hg h, Int.pow_add, Int.mul_emod]
theorem powE_pow {gr : GroupD} (hg : OkG gr) {x : Int} (h : elB gr x = true) (a b : Int) : powE gr (powE gr x a) b = powE gr x (a * b) := by
  have hq := hg.q1
  have e1 : 0 ≤ a % gr.q := Int.emod_nonneg _ (by omega)
  have e2 : 0 ≤ b % gr.q := Int.emod_nonneg _ (by omega)
  obtain ⟨i, hi⟩ : ∃ i : Nat, a % gr.q = i := ⟨(a % gr.q).toNat, by omega⟩
  obtain ⟨j, hj⟩ : ∃ j : Nat, b % gr.q = j := ⟨(b % gr.q).toNat, by omega⟩
  rw [← powE_emod gr x (a * b), Int.mul_emod, hi, hj, powE_emod, ← powE_emod gr (powE gr x a) b, hj, powE_nat hg (elT_pow hg h a), ← powE_emod gr x a, hi, powE_nat hg h, emod_pow, ← Int.pow_mul, show ((i : Int) * (j : Int)) = ((i * j : Nat) : Int) by rw [Int.natCast_mul], powE_nat hg h]
theorem powE_zero {gr : GroupD} (hg : OkG gr) {x : Int} : powE gr x 0 = 1 := by
  have := hg.p1
  unfold powE powM
  rw [Int.zero_emod, show (0 : Int).toNat = 0 from rfl, Int.pow_zero]
  exact Int.emod_eq_of_lt (by omega) (by omega)
theorem powE_mulB (gr : GroupD) (a b e : Int) : powE gr (a * b % gr.p) e = powE gr a e * powE gr b e % gr.p := by
  unfold powE powM
  rw [emod_pow, Int.mul_pow, Int.mul_emod]
theorem powE_neg {gr : GroupD} (hg : OkG gr) {x : Int} (h : elB gr x = true) (a : Int) : powE gr x a * powE gr x (-a) % gr.p = 1 := by
  rw [← powE_add hg h, show a + -a = 0 by omega, powE_zero hg]
/-- what is multiplied by a power and its opposite stays -/
theorem mul_cancel {gr : GroupD} (hg : OkG gr) {y x : Int} (hy : elB gr y = true) (hx : elB gr x = true) (a : Int) : y * powE gr x a % gr.p * powE gr x (-a) % gr.p = y := by
  rw [emod_mul_left, Int.mul_assoc, ← emod_mul_right, powE_neg hg hx, Int.mul_one, elT_mod hg hy]
theorem mul_cancel' {gr : GroupD} (hg : OkG gr) {y x : Int} (hy : elB gr y = true) (hx : elB gr x = true) (a : Int) : y * powE gr x (-a) % gr.p * powE gr x a % gr.p = y := by
  have h := mul_cancel hg hy hx (-a)
  rwa [Int.neg_neg] at h
theorem expT {gr : GroupD} (hg : OkG gr) (a : Int) : expB gr (a % gr.q) = true := by
  have hq := hg.q1
  unfold expB
  rw [decide_eq_true_iff]
  have := Int.emod_nonneg a (show gr.q ≠ 0 by omega)
  have := Int.emod_lt_of_pos a (show 0 < gr.q by omega)
  exact ⟨by omega, by omega⟩
/-- the equation of a proof of an exponent: x^(w + e*s) = x^w * (x^s)^e -/
theorem sigma_eq {gr : GroupD} (hg : OkG gr) {x : Int} (h : elB gr x = true) (w e s : Int) : powE gr x ((w + e * s) % gr.q) = powE gr x w * powE gr (powE gr x s) e % gr.p := by
  rw [powE_emod, powE_add hg h, powE_pow hg h, Int.mul_comm e s]
end Go.Proofs.Yteemlmmdngkghaa

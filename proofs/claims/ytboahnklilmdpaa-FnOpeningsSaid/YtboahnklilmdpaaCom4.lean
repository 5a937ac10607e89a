/- Commitments to lists: walks (printed by gen_com4.py). -/
import Derived.Test.YtboahnklilmdpaaCom2
namespace Go.Proofs.Ytboahnklilmdpaa
open Go.RowKit
set_option linter.unusedSimpArgs false
set_option linter.unusedVariables false

def cvM (gr : GroupD) (bh : Int) (bl l : List Int) (r : Int) : Int := mulL gr [powE gr bh r, prodL gr (bl.take l.length) l]
theorem prodL_small {gr : GroupD} (hg : OkG gr) (l es : List Int) : Small (prodL gr l es) := by
  have := prodL_bd hg l es; have := hg.p2; exact ⟨by omega, by omega⟩
theorem AllSmall.take {l : List Int} (h : AllSmall l) (k : Nat) : AllSmall (l.take k) := fun x hx => h x (List.mem_of_mem_take hx)
set_option maxRecDepth 100000 in
set_option maxHeartbeats 2000000 in
theorem impl_commitVector (gr : GroupD) (bh : Int) (bv : Value) (bl : List Int) (v : Value) (l : List Int) (r : Int) (w : World) (hg : OkG gr) (hb : Ints w bv bl) (h : Ints w v l) (sbh : Small bh) (sbl : AllSmall bl) (hr : I64 r) (hlb : l.length ≤ bl.length) :
    Calls Try.prog 175 #[.agg #[.int .i64 gr.p, .int .i64 gr.q, .int .i64 gr.g], .agg #[.int .i64 bh, bv], v, .int .i64 r] w fun e w' => e = .returned (.int .i64 (cvM gr bh bl l r)) ∧ Below w.heap.size w w' := by
  have HG := Lib.hid hg
  clear hg
  obtain ⟨bva, bvn, bvc, rfl⟩ := hb.shape
  have Ebv := Lib.hid hb.len
  have Kbv := Lib.hid hb.capMax
  have Hbv := Lib.hid hb
  clear hb
  obtain ⟨va, vn, vc, rfl⟩ := h.shape
  have Ev := Lib.hid h.len
  have Kv := Lib.hid h.capMax
  have Hv := Lib.hid h
  clear h
  have HKN : Hid (vn ≤ bvn) := by have e1 := Ev.out; have e2 := Ebv.out; unfold Hid; omega
  have hs1 := (sl_take Hbv.out (x := (vn : Int)) (k := vn) rfl HKN.out).1
  have HEQ : Hid (cvM gr bh bl l r = mulL gr [powE gr bh r, prodL gr (bl.take vn) l]) := by unfold Hid cvM; rw [Ev.out]
  rw [HEQ.out]
  obtain ⟨W, hW⟩ : ∃ W, W = (w.alloc (.cells #[.int .i64 gr.p, .int .i64 gr.q, .int .i64 gr.g] 39)).alloc (.cells #[.int .i64 bh, (.slice bva bvn bvc)] 79) := ⟨_, rfl⟩
  have HB : Hid (Below w.heap.size w W) := by unfold Hid; rw [hW]; (repeat (first | exact Below.refl _ _ | assumption | refine Below.drew ?_ | refine Below.alloc ?_ (by first | (simp; done) | (simp; omega)) _ | refine Below.setCell ?_ (by first | (simp; done) | (simp; omega)) _))
  have c0_0 : W.cell? ⟨w.heap.size, 0, none⟩ = some (.int .i64 gr.p) := by rw [hW]; simp [go_sem]
  have c0_1 : W.cell? ⟨w.heap.size, 1, none⟩ = some (.int .i64 gr.q) := by rw [hW]; simp [go_sem]
  have c0_2 : W.cell? ⟨w.heap.size, 2, none⟩ = some (.int .i64 gr.g) := by rw [hW]; simp [go_sem]
  have c1_0 : W.cell? ⟨w.heap.size + 1, 0, none⟩ = some (.int .i64 bh) := by rw [hW]; simp [go_sem]
  have c1_1 : W.cell? ⟨w.heap.size + 1, 1, none⟩ = some ((.slice bva bvn bvc)) := by rw [hW]; simp [go_sem]
  have HSW : Hid (W.heap.size = w.heap.size + 2) := by unfold Hid; rw [hW]; simp
  go_enter Try.func175, Try.ntmps175
  go_wp2_with fail
  rw [← hW]
  clear hW
  have hc : Below W.heap.size W W := Below.refl _ _
  try (go_wp2_with fail)
  refine wp_region_noPanic ?_
  refine wp_region_P (fun w' => w'.cell? ⟨w.heap.size, 0, none⟩ = some (.int .i64 gr.p) ∧ w'.cell? ⟨w.heap.size, 1, none⟩ = some (.int .i64 gr.q) ∧ w'.cell? ⟨w.heap.size, 2, none⟩ = some (.int .i64 gr.g) ∧ w'.cell? ⟨w.heap.size + 1, 0, none⟩ = some (.int .i64 bh) ∧ w'.cell? ⟨w.heap.size + 1, 1, none⟩ = some ((.slice bva bvn bvc))) 19 [(0, []), (1, []), (2, []), (3, [0]), (4, []), (5, [3, 1, 0]), (6, []), (7, []), (8, [0]), (9, []), (10, [0]), (11, [2, 0]), (12, []), (13, [6, 1, 0]), (14, [8, 0]), (15, [14, 0]), (16, [0])] [] (by kernel_rfl) (by kernel_rfl) (by kernel_rfl) rfl (fun _ _ _ _ h => h) (fun w' h => ⟨box_at c0_0 h, box_at c0_1 h, box_at c0_2 h, box_at c1_0 h, box_at c1_1 h⟩) ?_
  simp only [pickP, pickN, List.getElem?_cons_zero, List.getElem?_cons_succ]
  iterate 5 (refine' chainP_read _ rfl rfl (fun w' hS' => ?_) ?_; rotate_left; · (simp only [lookP, allP, Act.put, List.getElem?_cons_zero, List.getElem?_cons_succ, List.setIfInBounds_toArray, List.set_cons_zero, List.set_cons_succ]; (try dsimp only at hS'); go_simp; (try with_reducible rfl)))
  -- 5: call { callee := value (func 165), args := #[t10, t12, t13], argTypes := #[39, 3, 3] }
  refine chainP_call (d := (some 14)) (.int .i64 (powE gr bh r)) rfl rfl (fun w' hS' => ?_) ?_
  · simp only [lookP, allP, Act.put, List.getElem?_cons_zero, List.getElem?_cons_succ, List.setIfInBounds_toArray, List.set_cons_zero, List.set_cons_succ]
    intro K hK
    go_simp
    go_at_call 165
    refine (impl_pow gr bh r _ HG.out sbh hr).mono ?_
    rintro e u ⟨rfl, hq⟩
    exact hK.out _ hq
  iterate 7 (refine' chainP_read _ rfl rfl (fun w' hS' => ?_) ?_; rotate_left; · (simp only [lookP, allP, Act.put, List.getElem?_cons_zero, List.getElem?_cons_succ, List.setIfInBounds_toArray, List.set_cons_zero, List.set_cons_succ]; (try dsimp only at hS'); go_simp; (try with_reducible rfl)))
  -- 13: call { callee := value (func 167), args := #[t15, t20, t21], argTypes := #[39, 24, 24] }
  refine chainP_call (d := (some 22)) (.int .i64 (prodL gr (bl.take vn) l)) rfl rfl (fun w' hS' => ?_) ?_
  · simp only [lookP, allP, Act.put, List.getElem?_cons_zero, List.getElem?_cons_succ, List.setIfInBounds_toArray, List.set_cons_zero, List.set_cons_succ]
    intro K hK
    go_simp
    go_at_call 167
    refine (impl_powers gr _ _ (bl.take vn) l _ HG.out (((Hbv.out.below (HB.out.trans (hc.mono HB.out.size))).take HKN.out).below hS'.1) ((Hv.out.below (HB.out.trans (hc.mono HB.out.size))).below hS'.1) (AllSmall.take sbl _) (by have := Ev.out; have := HKN.out; have := Ebv.out; rw [List.length_take]; omega)).mono ?_
    rintro e u ⟨rfl, hq⟩
    exact hK.out _ hq
  -- 14: buildSlice 24 2 #[(0, t14), (1, t22)]
  refine chainP_do (d := (some 23)) (fun v w => Ints w v [powE gr bh r, prodL gr (bl.take vn) l]) (fun v w w' hb h => Ints.below h hb) rfl rfl (fun w' hS' => ?_) ?_
  · simp only [lookP, allP, Act.put, List.getElem?_cons_zero, List.getElem?_cons_succ, List.setIfInBounds_toArray, List.set_cons_zero, List.set_cons_succ]
    intro K hK
    go_simp
    refine hK.out _ _ ((Below.refl _ _).alloc (Nat.le_refl _) _) ?_
    exact (OwnI.lit (B := w'.heap.size) w' (Nat.le_refl _) (l := [powE gr bh r, prodL gr (bl.take vn) l]) (AllI64.cons (small_64 (powE_small HG.out _ _)) (AllI64.cons (small_64 (prodL_small HG.out _ _)) AllI64.nil)) rfl (by simp [maxLen]) 2 rfl).ints
  -- 15: call { callee := value (func 197), args := #[t9, t23], argTypes := #[39, 24] }
  refine chainP_call (d := (some 24)) (.int .i64 (mulL gr [powE gr bh r, prodL gr (bl.take vn) l])) rfl rfl (fun w' hS' => ?_) ?_
  · simp only [lookP, allP, Act.put, List.getElem?_cons_zero, List.getElem?_cons_succ, List.setIfInBounds_toArray, List.set_cons_zero, List.set_cons_succ]
    intro x14 hx14
    intro K hK
    go_simp
    go_at_call 197
    refine (impl_mul gr _ [powE gr bh r, prodL gr (bl.take vn) l] _ HG.out hx14 (AllSmall.cons (powE_small HG.out _ _) (AllSmall.cons (prodL_small HG.out _ _) AllSmall.nil))).mono ?_
    rintro e u ⟨rfl, hq⟩
    exact hK.out _ hq
  -- 16: assign t24
  refine' chainP_read (d := (some 8)) _ rfl rfl (fun w' hS' => ?_) ?_; rotate_left
  · simp only [lookP, allP, Act.put, List.getElem?_cons_zero, List.getElem?_cons_succ, List.setIfInBounds_toArray, List.set_cons_zero, List.set_cons_succ]
    (try dsimp only at hS')
    go_simp
    (try with_reducible rfl)
  refine chainP_nil (fun u1 hS' => ?_)
  simp only [allP, Act.put, List.setIfInBounds_toArray, List.set_cons_zero, List.set_cons_succ]
  intro x14 hx14
  have hq1 := hS'.1
  clear hS'
  replace hc := Below.next hc hq1
  replace c0_0 := box_at c0_0 hq1
  replace c0_1 := box_at c0_1 hq1
  replace c0_2 := box_at c0_2 hq1
  replace c1_0 := box_at c1_0 hq1
  replace c1_1 := box_at c1_1 hq1
  clear hq1
  go_wp2_with fail
  refine NoPanic.normal ?_
  go_wp2_with fail
  go_ret
  exact ⟨rfl, HB.out.trans (hc.mono HB.out.size)⟩
set_option maxRecDepth 100000 in
set_option maxHeartbeats 2000000 in
theorem spec_pVector (gr : GroupD) (bh : Int) (bv : Value) (bl : List Int) (v : Value) (l : List Int) (r : Int) (w : World) (hg : OkG gr) (hb : Ints w bv bl) (h : Ints w v l) (sbh : Small bh) (sbl : AllSmall bl) (hr : I64 r) (hlb : l.length ≤ bl.length) :
    Calls Try.prog 176 #[.agg #[.int .i64 gr.p, .int .i64 gr.q, .int .i64 gr.g], .agg #[.int .i64 bh, bv], v, .int .i64 r] w fun e w' => e = .returned (.int .i64 (cvM gr bh bl l r)) ∧ Below w.heap.size w w' := by
  have HG := Lib.hid hg
  clear hg
  obtain ⟨bva, bvn, bvc, rfl⟩ := hb.shape
  have Ebv := Lib.hid hb.len
  have Kbv := Lib.hid hb.capMax
  have Hbv := Lib.hid hb
  clear hb
  obtain ⟨va, vn, vc, rfl⟩ := h.shape
  have Ev := Lib.hid h.len
  have Kv := Lib.hid h.capMax
  have Hv := Lib.hid h
  clear h
  have HKN : Hid (vn ≤ bvn) := by have e1 := Ev.out; have e2 := Ebv.out; unfold Hid; omega
  have hs1 := (sl_take Hbv.out (x := (vn : Int)) (k := vn) rfl HKN.out).1
  have HEQ : Hid (cvM gr bh bl l r = mulL gr [powE gr bh r, prodL gr (bl.take vn) l]) := by unfold Hid cvM; rw [Ev.out]
  rw [HEQ.out]
  obtain ⟨W, hW⟩ : ∃ W, W = (w.alloc (.cells #[.int .i64 gr.p, .int .i64 gr.q, .int .i64 gr.g] 39)).alloc (.cells #[.int .i64 bh, (.slice bva bvn bvc)] 79) := ⟨_, rfl⟩
  have HB : Hid (Below w.heap.size w W) := by unfold Hid; rw [hW]; (repeat (first | exact Below.refl _ _ | assumption | refine Below.drew ?_ | refine Below.alloc ?_ (by first | (simp; done) | (simp; omega)) _ | refine Below.setCell ?_ (by first | (simp; done) | (simp; omega)) _))
  have c0_0 : W.cell? ⟨w.heap.size, 0, none⟩ = some (.int .i64 gr.p) := by rw [hW]; simp [go_sem]
  have c0_1 : W.cell? ⟨w.heap.size, 1, none⟩ = some (.int .i64 gr.q) := by rw [hW]; simp [go_sem]
  have c0_2 : W.cell? ⟨w.heap.size, 2, none⟩ = some (.int .i64 gr.g) := by rw [hW]; simp [go_sem]
  have c1_0 : W.cell? ⟨w.heap.size + 1, 0, none⟩ = some (.int .i64 bh) := by rw [hW]; simp [go_sem]
  have c1_1 : W.cell? ⟨w.heap.size + 1, 1, none⟩ = some ((.slice bva bvn bvc)) := by rw [hW]; simp [go_sem]
  have HSW : Hid (W.heap.size = w.heap.size + 2) := by unfold Hid; rw [hW]; simp
  go_enter Try.func176, Try.ntmps176
  go_wp2_with fail
  rw [← hW]
  clear hW
  have hc : Below W.heap.size W W := Below.refl _ _
  try (go_wp2_with fail)
  refine wp_region_noPanic ?_
  refine wp_region_P (fun w' => w'.cell? ⟨w.heap.size, 0, none⟩ = some (.int .i64 gr.p) ∧ w'.cell? ⟨w.heap.size, 1, none⟩ = some (.int .i64 gr.q) ∧ w'.cell? ⟨w.heap.size, 2, none⟩ = some (.int .i64 gr.g) ∧ w'.cell? ⟨w.heap.size + 1, 0, none⟩ = some (.int .i64 bh) ∧ w'.cell? ⟨w.heap.size + 1, 1, none⟩ = some ((.slice bva bvn bvc))) 19 [(0, []), (1, []), (2, []), (3, [0]), (4, []), (5, [3, 1, 0]), (6, []), (7, []), (8, [0]), (9, []), (10, [0]), (11, [2, 0]), (12, []), (13, [6, 1, 0]), (14, [8, 0]), (15, [14, 0]), (16, [0])] [] (by kernel_rfl) (by kernel_rfl) (by kernel_rfl) rfl (fun _ _ _ _ h => h) (fun w' h => ⟨box_at c0_0 h, box_at c0_1 h, box_at c0_2 h, box_at c1_0 h, box_at c1_1 h⟩) ?_
  simp only [pickP, pickN, List.getElem?_cons_zero, List.getElem?_cons_succ]
  iterate 5 (refine' chainP_read _ rfl rfl (fun w' hS' => ?_) ?_; rotate_left; · (simp only [lookP, allP, Act.put, List.getElem?_cons_zero, List.getElem?_cons_succ, List.setIfInBounds_toArray, List.set_cons_zero, List.set_cons_succ]; (try dsimp only at hS'); go_simp; (try with_reducible rfl)))
  -- 5: call { callee := value (func 156), args := #[t10, t12, t13], argTypes := #[39, 3, 3] }
  refine chainP_call (d := (some 14)) (.int .i64 (powE gr bh r)) rfl rfl (fun w' hS' => ?_) ?_
  · simp only [lookP, allP, Act.put, List.getElem?_cons_zero, List.getElem?_cons_succ, List.setIfInBounds_toArray, List.set_cons_zero, List.set_cons_succ]
    intro K hK
    go_simp
    go_at_call 156
    refine (spec_gExp gr bh r _ HG.out sbh hr).mono ?_
    rintro e u ⟨rfl, hq⟩
    exact hK.out _ hq
  iterate 7 (refine' chainP_read _ rfl rfl (fun w' hS' => ?_) ?_; rotate_left; · (simp only [lookP, allP, Act.put, List.getElem?_cons_zero, List.getElem?_cons_succ, List.setIfInBounds_toArray, List.set_cons_zero, List.set_cons_succ]; (try dsimp only at hS'); go_simp; (try with_reducible rfl)))
  -- 13: call { callee := value (func 273), args := #[t15, t20, t21], argTypes := #[39, 24, 24] }
  refine chainP_call (d := (some 22)) (.int .i64 (prodL gr (bl.take vn) l)) rfl rfl (fun w' hS' => ?_) ?_
  · simp only [lookP, allP, Act.put, List.getElem?_cons_zero, List.getElem?_cons_succ, List.setIfInBounds_toArray, List.set_cons_zero, List.set_cons_succ]
    intro K hK
    go_simp
    go_at_call 273
    refine (spec_gProd gr _ _ (bl.take vn) l _ HG.out (((Hbv.out.below (HB.out.trans (hc.mono HB.out.size))).take HKN.out).below hS'.1) ((Hv.out.below (HB.out.trans (hc.mono HB.out.size))).below hS'.1) (AllSmall.take sbl _) (by have := Ev.out; have := HKN.out; have := Ebv.out; rw [List.length_take]; omega)).mono ?_
    rintro e u ⟨rfl, hq⟩
    exact hK.out _ hq
  -- 14: buildSlice 24 2 #[(0, t14), (1, t22)]
  refine chainP_do (d := (some 23)) (fun v w => Ints w v [powE gr bh r, prodL gr (bl.take vn) l]) (fun v w w' hb h => Ints.below h hb) rfl rfl (fun w' hS' => ?_) ?_
  · simp only [lookP, allP, Act.put, List.getElem?_cons_zero, List.getElem?_cons_succ, List.setIfInBounds_toArray, List.set_cons_zero, List.set_cons_succ]
    intro K hK
    go_simp
    refine hK.out _ _ ((Below.refl _ _).alloc (Nat.le_refl _) _) ?_
    exact (OwnI.lit (B := w'.heap.size) w' (Nat.le_refl _) (l := [powE gr bh r, prodL gr (bl.take vn) l]) (AllI64.cons (small_64 (powE_small HG.out _ _)) (AllI64.cons (small_64 (prodL_small HG.out _ _)) AllI64.nil)) rfl (by simp [maxLen]) 2 rfl).ints
  -- 15: call { callee := value (func 211), args := #[t9, t23], argTypes := #[39, 24] }
  refine chainP_call (d := (some 24)) (.int .i64 (mulL gr [powE gr bh r, prodL gr (bl.take vn) l])) rfl rfl (fun w' hS' => ?_) ?_
  · simp only [lookP, allP, Act.put, List.getElem?_cons_zero, List.getElem?_cons_succ, List.setIfInBounds_toArray, List.set_cons_zero, List.set_cons_succ]
    intro x14 hx14
    intro K hK
    go_simp
    go_at_call 211
    refine (spec_gMul gr _ [powE gr bh r, prodL gr (bl.take vn) l] _ HG.out hx14 (AllSmall.cons (powE_small HG.out _ _) (AllSmall.cons (prodL_small HG.out _ _) AllSmall.nil))).mono ?_
    rintro e u ⟨rfl, hq⟩
    exact hK.out _ hq
  -- 16: assign t24
  refine' chainP_read (d := (some 8)) _ rfl rfl (fun w' hS' => ?_) ?_; rotate_left
  · simp only [lookP, allP, Act.put, List.getElem?_cons_zero, List.getElem?_cons_succ, List.setIfInBounds_toArray, List.set_cons_zero, List.set_cons_succ]
    (try dsimp only at hS')
    go_simp
    (try with_reducible rfl)
  refine chainP_nil (fun u1 hS' => ?_)
  simp only [allP, Act.put, List.setIfInBounds_toArray, List.set_cons_zero, List.set_cons_succ]
  intro x14 hx14
  have hq1 := hS'.1
  clear hS'
  replace hc := Below.next hc hq1
  replace c0_0 := box_at c0_0 hq1
  replace c0_1 := box_at c0_1 hq1
  replace c0_2 := box_at c0_2 hq1
  replace c1_0 := box_at c1_0 hq1
  replace c1_1 := box_at c1_1 hq1
  clear hq1
  go_wp2_with fail
  refine NoPanic.normal ?_
  go_wp2_with fail
  go_ret
  exact ⟨rfl, HB.out.trans (hc.mono HB.out.size)⟩
noncomputable def cvB (gr : GroupD) (bh : Int) (bl l : List Int) (r : Int) : Bool := baB gr bh bl && (l.all (expB gr) && (expB gr r && decide (l.length ≤ bl.length)))
noncomputable def cvR (gr : GroupD) (bh : Int) (bl l : List Int) (r : Int) : Int := if cvB gr bh bl l r = true then cvM gr bh bl l r else 0
set_option maxRecDepth 100000 in
set_option maxHeartbeats 2000000 in
theorem impl_CommitVector (gr : GroupD) (bh : Int) (bv : Value) (bl : List Int) (v : Value) (l : List Int) (r : Int) (w : World) (hb : Ints w bv bl) (h : Ints w v l) (ibh : I64 bh) (hr : I64 r) :
    Calls Try.prog 54 #[.agg #[.int .i64 gr.p, .int .i64 gr.q, .int .i64 gr.g], .agg #[.int .i64 bh, bv], v, .int .i64 r] w fun e w' => e = .returned (.tuple #[.int .i64 (cvR gr bh bl l r), .bool (cvB gr bh bl l r)]) ∧ Below w.heap.size w w' := by
  obtain ⟨bva, bvn, bvc, rfl⟩ := hb.shape
  have Ebv := Lib.hid hb.len
  have Kbv := Lib.hid hb.capMax
  have Hbv := Lib.hid hb
  clear hb
  obtain ⟨va, vn, vc, rfl⟩ := h.shape
  have Ev := Lib.hid h.len
  have Kv := Lib.hid h.capMax
  have Hv := Lib.hid h
  clear h
  cases hc1 : baB gr bh bl with
  | false =>
    have HV : Hid ((.tuple #[.int .i64 (cvR gr bh bl l r), .bool (cvB gr bh bl l r)] : Value) = .tuple #[.int .i64 0, .bool false]) := by unfold Hid; simp [cvR, cvB, hc1]
    rw [HV.out]
    have Hhc1 := Lib.hid hc1
    clear hc1
    obtain ⟨W, hW⟩ : ∃ W, W = (w.alloc (.cells #[.int .i64 gr.p, .int .i64 gr.q, .int .i64 gr.g] 39)).alloc (.cells #[.int .i64 bh, (.slice bva bvn bvc)] 79) := ⟨_, rfl⟩
    have HB : Hid (Below w.heap.size w W) := by unfold Hid; rw [hW]; (repeat (first | exact Below.refl _ _ | assumption | refine Below.drew ?_ | refine Below.alloc ?_ (by first | (simp; done) | (simp; omega)) _ | refine Below.setCell ?_ (by first | (simp; done) | (simp; omega)) _))
    have c0_0 : W.cell? ⟨w.heap.size, 0, none⟩ = some (.int .i64 gr.p) := by rw [hW]; simp [go_sem]
    have c0_1 : W.cell? ⟨w.heap.size, 1, none⟩ = some (.int .i64 gr.q) := by rw [hW]; simp [go_sem]
    have c0_2 : W.cell? ⟨w.heap.size, 2, none⟩ = some (.int .i64 gr.g) := by rw [hW]; simp [go_sem]
    have c1_0 : W.cell? ⟨w.heap.size + 1, 0, none⟩ = some (.int .i64 bh) := by rw [hW]; simp [go_sem]
    have c1_1 : W.cell? ⟨w.heap.size + 1, 1, none⟩ = some ((.slice bva bvn bvc)) := by rw [hW]; simp [go_sem]
    have HSW : Hid (W.heap.size = w.heap.size + 2) := by unfold Hid; rw [hW]; simp
    go_enter Try.func54, Try.ntmps54
    go_wp2_with fail
    rw [← hW]
    clear hW
    have hc : Below W.heap.size W W := Below.refl _ _
    go_wp2_with fail
    refine (impl_IsValidBases gr bh _ bl _ (Hbv.out.below (HB.out.trans (hc.mono HB.out.size))) ibh).mono ?_
    rintro e u1 ⟨rfl, hq1⟩
    replace hc := Below.next hc hq1
    replace c0_0 := box_at c0_0 hq1
    replace c0_1 := box_at c0_1 hq1
    replace c0_2 := box_at c0_2 hq1
    replace c1_0 := box_at c1_0 hq1
    replace c1_1 := box_at c1_1 hq1
    clear hq1
    rw [Hhc1.out]
    go_wp2_with fail
    go_ret2
    exact ⟨rfl, HB.out.trans (hc.mono HB.out.size)⟩
  | true =>
    have HBA := Lib.hid (baB_parts hc1)
    have HG := Lib.hid (goodG_ok HBA.out.1)
    have sbh : Small bh := elB_small HG.out HBA.out.2.1
    have sbl : AllSmall bl := all_small HG.out HBA.out.2.2.2.2
    cases hc2 : l.all (expB gr) with
    | false =>
      have HV : Hid ((.tuple #[.int .i64 (cvR gr bh bl l r), .bool (cvB gr bh bl l r)] : Value) = .tuple #[.int .i64 0, .bool false]) := by unfold Hid; simp [cvR, cvB, hc1, hc2]
      rw [HV.out]
      have Hhc1 := Lib.hid hc1
      clear hc1
      have Hhc2 := Lib.hid hc2
      clear hc2
      obtain ⟨W, hW⟩ : ∃ W, W = (w.alloc (.cells #[.int .i64 gr.p, .int .i64 gr.q, .int .i64 gr.g] 39)).alloc (.cells #[.int .i64 bh, (.slice bva bvn bvc)] 79) := ⟨_, rfl⟩
      have HB : Hid (Below w.heap.size w W) := by unfold Hid; rw [hW]; (repeat (first | exact Below.refl _ _ | assumption | refine Below.drew ?_ | refine Below.alloc ?_ (by first | (simp; done) | (simp; omega)) _ | refine Below.setCell ?_ (by first | (simp; done) | (simp; omega)) _))
      have c0_0 : W.cell? ⟨w.heap.size, 0, none⟩ = some (.int .i64 gr.p) := by rw [hW]; simp [go_sem]
      have c0_1 : W.cell? ⟨w.heap.size, 1, none⟩ = some (.int .i64 gr.q) := by rw [hW]; simp [go_sem]
      have c0_2 : W.cell? ⟨w.heap.size, 2, none⟩ = some (.int .i64 gr.g) := by rw [hW]; simp [go_sem]
      have c1_0 : W.cell? ⟨w.heap.size + 1, 0, none⟩ = some (.int .i64 bh) := by rw [hW]; simp [go_sem]
      have c1_1 : W.cell? ⟨w.heap.size + 1, 1, none⟩ = some ((.slice bva bvn bvc)) := by rw [hW]; simp [go_sem]
      have HSW : Hid (W.heap.size = w.heap.size + 2) := by unfold Hid; rw [hW]; simp
      go_enter Try.func54, Try.ntmps54
      go_wp2_with fail
      rw [← hW]
      clear hW
      have hc : Below W.heap.size W W := Below.refl _ _
      go_wp2_with fail
      refine (impl_IsValidBases gr bh _ bl _ (Hbv.out.below (HB.out.trans (hc.mono HB.out.size))) ibh).mono ?_
      rintro e u1 ⟨rfl, hq1⟩
      replace hc := Below.next hc hq1
      replace c0_0 := box_at c0_0 hq1
      replace c0_1 := box_at c0_1 hq1
      replace c0_2 := box_at c0_2 hq1
      replace c1_0 := box_at c1_0 hq1
      replace c1_1 := box_at c1_1 hq1
      clear hq1
      rw [Hhc1.out]
      go_wp2_with fail
      refine (impl_areExps gr _ l _ HG.out (Hv.out.below (HB.out.trans (hc.mono HB.out.size)))).mono ?_
      rintro e u2 ⟨rfl, hq2⟩
      replace hc := Below.next hc hq2
      replace c0_0 := box_at c0_0 hq2
      replace c0_1 := box_at c0_1 hq2
      replace c0_2 := box_at c0_2 hq2
      replace c1_0 := box_at c1_0 hq2
      replace c1_1 := box_at c1_1 hq2
      clear hq2
      rw [Hhc2.out]
      go_wp2_with fail
      go_ret2
      exact ⟨rfl, HB.out.trans (hc.mono HB.out.size)⟩
    | true =>
      cases hc3 : expB gr r with
      | false =>
        have HV : Hid ((.tuple #[.int .i64 (cvR gr bh bl l r), .bool (cvB gr bh bl l r)] : Value) = .tuple #[.int .i64 0, .bool false]) := by unfold Hid; simp [cvR, cvB, hc1, hc2, hc3]
        rw [HV.out]
        have Hhc1 := Lib.hid hc1
        clear hc1
        have Hhc2 := Lib.hid hc2
        clear hc2
        have Hhc3 := Lib.hid hc3
        clear hc3
        obtain ⟨W, hW⟩ : ∃ W, W = (w.alloc (.cells #[.int .i64 gr.p, .int .i64 gr.q, .int .i64 gr.g] 39)).alloc (.cells #[.int .i64 bh, (.slice bva bvn bvc)] 79) := ⟨_, rfl⟩
        have HB : Hid (Below w.heap.size w W) := by unfold Hid; rw [hW]; (repeat (first | exact Below.refl _ _ | assumption | refine Below.drew ?_ | refine Below.alloc ?_ (by first | (simp; done) | (simp; omega)) _ | refine Below.setCell ?_ (by first | (simp; done) | (simp; omega)) _))
        have c0_0 : W.cell? ⟨w.heap.size, 0, none⟩ = some (.int .i64 gr.p) := by rw [hW]; simp [go_sem]
        have c0_1 : W.cell? ⟨w.heap.size, 1, none⟩ = some (.int .i64 gr.q) := by rw [hW]; simp [go_sem]
        have c0_2 : W.cell? ⟨w.heap.size, 2, none⟩ = some (.int .i64 gr.g) := by rw [hW]; simp [go_sem]
        have c1_0 : W.cell? ⟨w.heap.size + 1, 0, none⟩ = some (.int .i64 bh) := by rw [hW]; simp [go_sem]
        have c1_1 : W.cell? ⟨w.heap.size + 1, 1, none⟩ = some ((.slice bva bvn bvc)) := by rw [hW]; simp [go_sem]
        have HSW : Hid (W.heap.size = w.heap.size + 2) := by unfold Hid; rw [hW]; simp
        go_enter Try.func54, Try.ntmps54
        go_wp2_with fail
        rw [← hW]
        clear hW
        have hc : Below W.heap.size W W := Below.refl _ _
        go_wp2_with fail
        refine (impl_IsValidBases gr bh _ bl _ (Hbv.out.below (HB.out.trans (hc.mono HB.out.size))) ibh).mono ?_
        rintro e u1 ⟨rfl, hq1⟩
        replace hc := Below.next hc hq1
        replace c0_0 := box_at c0_0 hq1
        replace c0_1 := box_at c0_1 hq1
        replace c0_2 := box_at c0_2 hq1
        replace c1_0 := box_at c1_0 hq1
        replace c1_1 := box_at c1_1 hq1
        clear hq1
        rw [Hhc1.out]
        go_wp2_with fail
        refine (impl_areExps gr _ l _ HG.out (Hv.out.below (HB.out.trans (hc.mono HB.out.size)))).mono ?_
        rintro e u2 ⟨rfl, hq2⟩
        replace hc := Below.next hc hq2
        replace c0_0 := box_at c0_0 hq2
        replace c0_1 := box_at c0_1 hq2
        replace c0_2 := box_at c0_2 hq2
        replace c1_0 := box_at c1_0 hq2
        replace c1_1 := box_at c1_1 hq2
        clear hq2
        rw [Hhc2.out]
        go_wp2_with fail
        refine (impl_isExp gr r _ HG.out).mono ?_
        rintro e u3 ⟨rfl, hq3⟩
        replace hc := Below.next hc hq3
        replace c0_0 := box_at c0_0 hq3
        replace c0_1 := box_at c0_1 hq3
        replace c0_2 := box_at c0_2 hq3
        replace c1_0 := box_at c1_0 hq3
        replace c1_1 := box_at c1_1 hq3
        clear hq3
        rw [Hhc3.out]
        go_wp2_with fail
        go_ret2
        exact ⟨rfl, HB.out.trans (hc.mono HB.out.size)⟩
      | true =>
        cases hc4 : decide ((bvn : Int) < (vn : Int)) with
        | false =>
          have HLN : Hid (decide (l.length ≤ bl.length) = true) := by have e1 := Ev.out; have e2 := Ebv.out; have q : ¬ (bvn : Int) < vn := of_decide_eq_false hc4; exact decide_eq_true (by omega)
          have HLB : Hid (l.length ≤ bl.length) := by unfold Hid; exact of_decide_eq_true HLN.out
          have hnat : ¬ bvn < vn := by have q : ¬ (bvn : Int) < vn := of_decide_eq_false hc4; omega
          have hdn : decide (bvn < vn) = false := decide_eq_false hnat
          have HV : Hid ((.tuple #[.int .i64 (cvR gr bh bl l r), .bool (cvB gr bh bl l r)] : Value) = .tuple #[.int .i64 (cvM gr bh bl l r), .bool true]) := by unfold Hid; simp [cvR, cvB, hc1, hc2, hc3, hc4, HLN.out]
          rw [HV.out]
          have Hhc1 := Lib.hid hc1
          clear hc1
          have Hhc2 := Lib.hid hc2
          clear hc2
          have Hhc3 := Lib.hid hc3
          clear hc3
          obtain ⟨W, hW⟩ : ∃ W, W = (w.alloc (.cells #[.int .i64 gr.p, .int .i64 gr.q, .int .i64 gr.g] 39)).alloc (.cells #[.int .i64 bh, (.slice bva bvn bvc)] 79) := ⟨_, rfl⟩
          have HB : Hid (Below w.heap.size w W) := by unfold Hid; rw [hW]; (repeat (first | exact Below.refl _ _ | assumption | refine Below.drew ?_ | refine Below.alloc ?_ (by first | (simp; done) | (simp; omega)) _ | refine Below.setCell ?_ (by first | (simp; done) | (simp; omega)) _))
          have c0_0 : W.cell? ⟨w.heap.size, 0, none⟩ = some (.int .i64 gr.p) := by rw [hW]; simp [go_sem]
          have c0_1 : W.cell? ⟨w.heap.size, 1, none⟩ = some (.int .i64 gr.q) := by rw [hW]; simp [go_sem]
          have c0_2 : W.cell? ⟨w.heap.size, 2, none⟩ = some (.int .i64 gr.g) := by rw [hW]; simp [go_sem]
          have c1_0 : W.cell? ⟨w.heap.size + 1, 0, none⟩ = some (.int .i64 bh) := by rw [hW]; simp [go_sem]
          have c1_1 : W.cell? ⟨w.heap.size + 1, 1, none⟩ = some ((.slice bva bvn bvc)) := by rw [hW]; simp [go_sem]
          have HSW : Hid (W.heap.size = w.heap.size + 2) := by unfold Hid; rw [hW]; simp
          go_enter Try.func54, Try.ntmps54
          go_wp2_with fail
          rw [← hW]
          clear hW
          have hc : Below W.heap.size W W := Below.refl _ _
          go_wp2_with fail
          refine (impl_IsValidBases gr bh _ bl _ (Hbv.out.below (HB.out.trans (hc.mono HB.out.size))) ibh).mono ?_
          rintro e u1 ⟨rfl, hq1⟩
          replace hc := Below.next hc hq1
          replace c0_0 := box_at c0_0 hq1
          replace c0_1 := box_at c0_1 hq1
          replace c0_2 := box_at c0_2 hq1
          replace c1_0 := box_at c1_0 hq1
          replace c1_1 := box_at c1_1 hq1
          clear hq1
          rw [Hhc1.out]
          go_wp2_with fail
          refine (impl_areExps gr _ l _ HG.out (Hv.out.below (HB.out.trans (hc.mono HB.out.size)))).mono ?_
          rintro e u2 ⟨rfl, hq2⟩
          replace hc := Below.next hc hq2
          replace c0_0 := box_at c0_0 hq2
          replace c0_1 := box_at c0_1 hq2
          replace c0_2 := box_at c0_2 hq2
          replace c1_0 := box_at c1_0 hq2
          replace c1_1 := box_at c1_1 hq2
          clear hq2
          rw [Hhc2.out]
          go_wp2_with fail
          refine (impl_isExp gr r _ HG.out).mono ?_
          rintro e u3 ⟨rfl, hq3⟩
          replace hc := Below.next hc hq3
          replace c0_0 := box_at c0_0 hq3
          replace c0_1 := box_at c0_1 hq3
          replace c0_2 := box_at c0_2 hq3
          replace c1_0 := box_at c1_0 hq3
          replace c1_1 := box_at c1_1 hq3
          clear hq3
          rw [Hhc3.out]
          go_wp2_with fail
          refine (impl_commitVector gr bh _ bl _ l r _ HG.out (Hbv.out.below (HB.out.trans (hc.mono HB.out.size))) (Hv.out.below (HB.out.trans (hc.mono HB.out.size))) sbh sbl hr HLB.out).mono ?_
          rintro e u4 ⟨rfl, hq4⟩
          replace hc := Below.next hc hq4
          replace c0_0 := box_at c0_0 hq4
          replace c0_1 := box_at c0_1 hq4
          replace c0_2 := box_at c0_2 hq4
          replace c1_0 := box_at c1_0 hq4
          replace c1_1 := box_at c1_1 hq4
          clear hq4
          go_wp2_with fail
          go_ret2
          exact ⟨rfl, HB.out.trans (hc.mono HB.out.size)⟩
        | true =>
          have HLN : Hid (decide (l.length ≤ bl.length) = false) := by have e1 := Ev.out; have e2 := Ebv.out; have q : (bvn : Int) < vn := of_decide_eq_true hc4; exact decide_eq_false (by omega)
          have hnat : bvn < vn := by have q : (bvn : Int) < vn := of_decide_eq_true hc4; omega
          have hdn : decide (bvn < vn) = true := decide_eq_true hnat
          have HV : Hid ((.tuple #[.int .i64 (cvR gr bh bl l r), .bool (cvB gr bh bl l r)] : Value) = .tuple #[.int .i64 0, .bool false]) := by unfold Hid; simp [cvR, cvB, hc1, hc2, hc3, hc4, HLN.out]
          rw [HV.out]
          have Hhc1 := Lib.hid hc1
          clear hc1
          have Hhc2 := Lib.hid hc2
          clear hc2
          have Hhc3 := Lib.hid hc3
          clear hc3
          obtain ⟨W, hW⟩ : ∃ W, W = (w.alloc (.cells #[.int .i64 gr.p, .int .i64 gr.q, .int .i64 gr.g] 39)).alloc (.cells #[.int .i64 bh, (.slice bva bvn bvc)] 79) := ⟨_, rfl⟩
          have HB : Hid (Below w.heap.size w W) := by unfold Hid; rw [hW]; (repeat (first | exact Below.refl _ _ | assumption | refine Below.drew ?_ | refine Below.alloc ?_ (by first | (simp; done) | (simp; omega)) _ | refine Below.setCell ?_ (by first | (simp; done) | (simp; omega)) _))
          have c0_0 : W.cell? ⟨w.heap.size, 0, none⟩ = some (.int .i64 gr.p) := by rw [hW]; simp [go_sem]
          have c0_1 : W.cell? ⟨w.heap.size, 1, none⟩ = some (.int .i64 gr.q) := by rw [hW]; simp [go_sem]
          have c0_2 : W.cell? ⟨w.heap.size, 2, none⟩ = some (.int .i64 gr.g) := by rw [hW]; simp [go_sem]
          have c1_0 : W.cell? ⟨w.heap.size + 1, 0, none⟩ = some (.int .i64 bh) := by rw [hW]; simp [go_sem]
          have c1_1 : W.cell? ⟨w.heap.size + 1, 1, none⟩ = some ((.slice bva bvn bvc)) := by rw [hW]; simp [go_sem]
          have HSW : Hid (W.heap.size = w.heap.size + 2) := by unfold Hid; rw [hW]; simp
          go_enter Try.func54, Try.ntmps54
          go_wp2_with fail
          rw [← hW]
          clear hW
          have hc : Below W.heap.size W W := Below.refl _ _
          go_wp2_with fail
          refine (impl_IsValidBases gr bh _ bl _ (Hbv.out.below (HB.out.trans (hc.mono HB.out.size))) ibh).mono ?_
          rintro e u1 ⟨rfl, hq1⟩
          replace hc := Below.next hc hq1
          replace c0_0 := box_at c0_0 hq1
          replace c0_1 := box_at c0_1 hq1
          replace c0_2 := box_at c0_2 hq1
          replace c1_0 := box_at c1_0 hq1
          replace c1_1 := box_at c1_1 hq1
          clear hq1
          rw [Hhc1.out]
          go_wp2_with fail
          refine (impl_areExps gr _ l _ HG.out (Hv.out.below (HB.out.trans (hc.mono HB.out.size)))).mono ?_
          rintro e u2 ⟨rfl, hq2⟩
          replace hc := Below.next hc hq2
          replace c0_0 := box_at c0_0 hq2
          replace c0_1 := box_at c0_1 hq2
          replace c0_2 := box_at c0_2 hq2
          replace c1_0 := box_at c1_0 hq2
          replace c1_1 := box_at c1_1 hq2
          clear hq2
          rw [Hhc2.out]
          go_wp2_with fail
          refine (impl_isExp gr r _ HG.out).mono ?_
          rintro e u3 ⟨rfl, hq3⟩
          replace hc := Below.next hc hq3
          replace c0_0 := box_at c0_0 hq3
          replace c0_1 := box_at c0_1 hq3
          replace c0_2 := box_at c0_2 hq3
          replace c1_0 := box_at c1_0 hq3
          replace c1_1 := box_at c1_1 hq3
          clear hq3
          rw [Hhc3.out]
          go_wp2_with fail
          go_ret2
          exact ⟨rfl, HB.out.trans (hc.mono HB.out.size)⟩
set_option maxRecDepth 100000 in
set_option maxHeartbeats 2000000 in
theorem spec_CommitVector (gr : GroupD) (bh : Int) (bv : Value) (bl : List Int) (v : Value) (l : List Int) (r : Int) (w : World) (hb : Ints w bv bl) (h : Ints w v l) (ibh : I64 bh) (hr : I64 r) :
    Calls Try.prog 55 #[.agg #[.int .i64 gr.p, .int .i64 gr.q, .int .i64 gr.g], .agg #[.int .i64 bh, bv], v, .int .i64 r] w fun e w' => e = .returned (.tuple #[.int .i64 (cvR gr bh bl l r), .bool (cvB gr bh bl l r)]) ∧ Below w.heap.size w w' := by
  obtain ⟨bva, bvn, bvc, rfl⟩ := hb.shape
  have Ebv := Lib.hid hb.len
  have Kbv := Lib.hid hb.capMax
  have Hbv := Lib.hid hb
  clear hb
  obtain ⟨va, vn, vc, rfl⟩ := h.shape
  have Ev := Lib.hid h.len
  have Kv := Lib.hid h.capMax
  have Hv := Lib.hid h
  clear h
  cases hc1 : baB gr bh bl with
  | false =>
    have HV : Hid ((.tuple #[.int .i64 (cvR gr bh bl l r), .bool (cvB gr bh bl l r)] : Value) = .tuple #[.int .i64 0, .bool false]) := by unfold Hid; simp [cvR, cvB, hc1]
    rw [HV.out]
    have Hhc1 := Lib.hid hc1
    clear hc1
    obtain ⟨W, hW⟩ : ∃ W, W = (w.alloc (.cells #[.int .i64 gr.p, .int .i64 gr.q, .int .i64 gr.g] 39)).alloc (.cells #[.int .i64 bh, (.slice bva bvn bvc)] 79) := ⟨_, rfl⟩
    have HB : Hid (Below w.heap.size w W) := by unfold Hid; rw [hW]; (repeat (first | exact Below.refl _ _ | assumption | refine Below.drew ?_ | refine Below.alloc ?_ (by first | (simp; done) | (simp; omega)) _ | refine Below.setCell ?_ (by first | (simp; done) | (simp; omega)) _))
    have c0_0 : W.cell? ⟨w.heap.size, 0, none⟩ = some (.int .i64 gr.p) := by rw [hW]; simp [go_sem]
    have c0_1 : W.cell? ⟨w.heap.size, 1, none⟩ = some (.int .i64 gr.q) := by rw [hW]; simp [go_sem]
    have c0_2 : W.cell? ⟨w.heap.size, 2, none⟩ = some (.int .i64 gr.g) := by rw [hW]; simp [go_sem]
    have c1_0 : W.cell? ⟨w.heap.size + 1, 0, none⟩ = some (.int .i64 bh) := by rw [hW]; simp [go_sem]
    have c1_1 : W.cell? ⟨w.heap.size + 1, 1, none⟩ = some ((.slice bva bvn bvc)) := by rw [hW]; simp [go_sem]
    have HSW : Hid (W.heap.size = w.heap.size + 2) := by unfold Hid; rw [hW]; simp
    go_enter Try.func55, Try.ntmps55
    go_wp2_with fail
    rw [← hW]
    clear hW
    have hc : Below W.heap.size W W := Below.refl _ _
    go_wp2_with fail
    refine (spec_l9Good gr bh _ bl _ (Hbv.out.below (HB.out.trans (hc.mono HB.out.size))) ibh).mono ?_
    rintro e u1 ⟨rfl, hq1⟩
    replace hc := Below.next hc hq1
    replace c0_0 := box_at c0_0 hq1
    replace c0_1 := box_at c0_1 hq1
    replace c0_2 := box_at c0_2 hq1
    replace c1_0 := box_at c1_0 hq1
    replace c1_1 := box_at c1_1 hq1
    clear hq1
    rw [Hhc1.out]
    go_wp2_with fail
    go_ret2
    exact ⟨rfl, HB.out.trans (hc.mono HB.out.size)⟩
  | true =>
    have HBA := Lib.hid (baB_parts hc1)
    have HG := Lib.hid (goodG_ok HBA.out.1)
    have sbh : Small bh := elB_small HG.out HBA.out.2.1
    have sbl : AllSmall bl := all_small HG.out HBA.out.2.2.2.2
    cases hc2 : decide ((bvn : Int) < (vn : Int)) with
    | false =>
      have HLN : Hid (decide (l.length ≤ bl.length) = true) := by have e1 := Ev.out; have e2 := Ebv.out; have q : ¬ (bvn : Int) < vn := of_decide_eq_false hc2; exact decide_eq_true (by omega)
      have HLB : Hid (l.length ≤ bl.length) := by unfold Hid; exact of_decide_eq_true HLN.out
      have hnat : ¬ bvn < vn := by have q : ¬ (bvn : Int) < vn := of_decide_eq_false hc2; omega
      have hdn : decide (bvn < vn) = false := decide_eq_false hnat
      cases hc3 : l.all (expB gr) with
      | false =>
        have HV : Hid ((.tuple #[.int .i64 (cvR gr bh bl l r), .bool (cvB gr bh bl l r)] : Value) = .tuple #[.int .i64 0, .bool false]) := by unfold Hid; simp [cvR, cvB, hc1, hc2, hc3, HLN.out]
        rw [HV.out]
        have Hhc1 := Lib.hid hc1
        clear hc1
        have Hhc3 := Lib.hid hc3
        clear hc3
        obtain ⟨W, hW⟩ : ∃ W, W = (w.alloc (.cells #[.int .i64 gr.p, .int .i64 gr.q, .int .i64 gr.g] 39)).alloc (.cells #[.int .i64 bh, (.slice bva bvn bvc)] 79) := ⟨_, rfl⟩
        have HB : Hid (Below w.heap.size w W) := by unfold Hid; rw [hW]; (repeat (first | exact Below.refl _ _ | assumption | refine Below.drew ?_ | refine Below.alloc ?_ (by first | (simp; done) | (simp; omega)) _ | refine Below.setCell ?_ (by first | (simp; done) | (simp; omega)) _))
        have c0_0 : W.cell? ⟨w.heap.size, 0, none⟩ = some (.int .i64 gr.p) := by rw [hW]; simp [go_sem]
        have c0_1 : W.cell? ⟨w.heap.size, 1, none⟩ = some (.int .i64 gr.q) := by rw [hW]; simp [go_sem]
        have c0_2 : W.cell? ⟨w.heap.size, 2, none⟩ = some (.int .i64 gr.g) := by rw [hW]; simp [go_sem]
        have c1_0 : W.cell? ⟨w.heap.size + 1, 0, none⟩ = some (.int .i64 bh) := by rw [hW]; simp [go_sem]
        have c1_1 : W.cell? ⟨w.heap.size + 1, 1, none⟩ = some ((.slice bva bvn bvc)) := by rw [hW]; simp [go_sem]
        have HSW : Hid (W.heap.size = w.heap.size + 2) := by unfold Hid; rw [hW]; simp
        go_enter Try.func55, Try.ntmps55
        go_wp2_with fail
        rw [← hW]
        clear hW
        have hc : Below W.heap.size W W := Below.refl _ _
        go_wp2_with fail
        refine (spec_l9Good gr bh _ bl _ (Hbv.out.below (HB.out.trans (hc.mono HB.out.size))) ibh).mono ?_
        rintro e u1 ⟨rfl, hq1⟩
        replace hc := Below.next hc hq1
        replace c0_0 := box_at c0_0 hq1
        replace c0_1 := box_at c0_1 hq1
        replace c0_2 := box_at c0_2 hq1
        replace c1_0 := box_at c1_0 hq1
        replace c1_1 := box_at c1_1 hq1
        clear hq1
        rw [Hhc1.out]
        go_wp2_with fail
        refine (spec_gExps gr _ l _ HG.out (Hv.out.below (HB.out.trans (hc.mono HB.out.size)))).mono ?_
        rintro e u2 ⟨rfl, hq2⟩
        replace hc := Below.next hc hq2
        replace c0_0 := box_at c0_0 hq2
        replace c0_1 := box_at c0_1 hq2
        replace c0_2 := box_at c0_2 hq2
        replace c1_0 := box_at c1_0 hq2
        replace c1_1 := box_at c1_1 hq2
        clear hq2
        rw [Hhc3.out]
        go_wp2_with fail
        go_ret2
        exact ⟨rfl, HB.out.trans (hc.mono HB.out.size)⟩
      | true =>
        cases hc4 : [r].all (expB gr) with
        | false =>
          have HV : Hid ((.tuple #[.int .i64 (cvR gr bh bl l r), .bool (cvB gr bh bl l r)] : Value) = .tuple #[.int .i64 0, .bool false]) := by unfold Hid; have qhc4 := hc4; simp only [List.all_cons, List.all_nil, Bool.and_true] at qhc4; simp [cvR, cvB, hc1, hc2, hc3, qhc4, HLN.out]
          rw [HV.out]
          have Hhc1 := Lib.hid hc1
          clear hc1
          have Hhc3 := Lib.hid hc3
          clear hc3
          have Hhc4 := Lib.hid hc4
          clear hc4
          obtain ⟨W, hW⟩ : ∃ W, W = (w.alloc (.cells #[.int .i64 gr.p, .int .i64 gr.q, .int .i64 gr.g] 39)).alloc (.cells #[.int .i64 bh, (.slice bva bvn bvc)] 79) := ⟨_, rfl⟩
          have HB : Hid (Below w.heap.size w W) := by unfold Hid; rw [hW]; (repeat (first | exact Below.refl _ _ | assumption | refine Below.drew ?_ | refine Below.alloc ?_ (by first | (simp; done) | (simp; omega)) _ | refine Below.setCell ?_ (by first | (simp; done) | (simp; omega)) _))
          have c0_0 : W.cell? ⟨w.heap.size, 0, none⟩ = some (.int .i64 gr.p) := by rw [hW]; simp [go_sem]
          have c0_1 : W.cell? ⟨w.heap.size, 1, none⟩ = some (.int .i64 gr.q) := by rw [hW]; simp [go_sem]
          have c0_2 : W.cell? ⟨w.heap.size, 2, none⟩ = some (.int .i64 gr.g) := by rw [hW]; simp [go_sem]
          have c1_0 : W.cell? ⟨w.heap.size + 1, 0, none⟩ = some (.int .i64 bh) := by rw [hW]; simp [go_sem]
          have c1_1 : W.cell? ⟨w.heap.size + 1, 1, none⟩ = some ((.slice bva bvn bvc)) := by rw [hW]; simp [go_sem]
          have HSW : Hid (W.heap.size = w.heap.size + 2) := by unfold Hid; rw [hW]; simp
          go_enter Try.func55, Try.ntmps55
          go_wp2_with fail
          rw [← hW]
          clear hW
          have hc : Below W.heap.size W W := Below.refl _ _
          go_wp2_with fail
          refine (spec_l9Good gr bh _ bl _ (Hbv.out.below (HB.out.trans (hc.mono HB.out.size))) ibh).mono ?_
          rintro e u1 ⟨rfl, hq1⟩
          replace hc := Below.next hc hq1
          replace c0_0 := box_at c0_0 hq1
          replace c0_1 := box_at c0_1 hq1
          replace c0_2 := box_at c0_2 hq1
          replace c1_0 := box_at c1_0 hq1
          replace c1_1 := box_at c1_1 hq1
          clear hq1
          rw [Hhc1.out]
          go_wp2_with fail
          refine (spec_gExps gr _ l _ HG.out (Hv.out.below (HB.out.trans (hc.mono HB.out.size)))).mono ?_
          rintro e u2 ⟨rfl, hq2⟩
          replace hc := Below.next hc hq2
          replace c0_0 := box_at c0_0 hq2
          replace c0_1 := box_at c0_1 hq2
          replace c0_2 := box_at c0_2 hq2
          replace c1_0 := box_at c1_0 hq2
          replace c1_1 := box_at c1_1 hq2
          clear hq2
          rw [Hhc3.out]
          go_wp2_with fail
          refine (spec_gExps gr _ [r] _ HG.out (OwnI.lit (B := 0) _ (Nat.zero_le _) (l := [r]) (AllI64.cons hr AllI64.nil) rfl (by simp [maxLen]) 1 rfl).ints).mono ?_
          rintro e u3 ⟨rfl, hq3⟩
          replace hq3 := Below.next (keep_al (Below.refl _ _) _) hq3
          replace hc := Below.next hc hq3
          replace c0_0 := box_at c0_0 hq3
          replace c0_1 := box_at c0_1 hq3
          replace c0_2 := box_at c0_2 hq3
          replace c1_0 := box_at c1_0 hq3
          replace c1_1 := box_at c1_1 hq3
          clear hq3
          rw [Hhc4.out]
          go_wp2_with fail
          go_ret2
          exact ⟨rfl, HB.out.trans (hc.mono HB.out.size)⟩
        | true =>
          have HV : Hid ((.tuple #[.int .i64 (cvR gr bh bl l r), .bool (cvB gr bh bl l r)] : Value) = .tuple #[.int .i64 (cvM gr bh bl l r), .bool true]) := by unfold Hid; have qhc4 := hc4; simp only [List.all_cons, List.all_nil, Bool.and_true] at qhc4; simp [cvR, cvB, hc1, hc2, hc3, qhc4, HLN.out]
          rw [HV.out]
          have Hhc1 := Lib.hid hc1
          clear hc1
          have Hhc3 := Lib.hid hc3
          clear hc3
          have Hhc4 := Lib.hid hc4
          clear hc4
          obtain ⟨W, hW⟩ : ∃ W, W = (w.alloc (.cells #[.int .i64 gr.p, .int .i64 gr.q, .int .i64 gr.g] 39)).alloc (.cells #[.int .i64 bh, (.slice bva bvn bvc)] 79) := ⟨_, rfl⟩
          have HB : Hid (Below w.heap.size w W) := by unfold Hid; rw [hW]; (repeat (first | exact Below.refl _ _ | assumption | refine Below.drew ?_ | refine Below.alloc ?_ (by first | (simp; done) | (simp; omega)) _ | refine Below.setCell ?_ (by first | (simp; done) | (simp; omega)) _))
          have c0_0 : W.cell? ⟨w.heap.size, 0, none⟩ = some (.int .i64 gr.p) := by rw [hW]; simp [go_sem]
          have c0_1 : W.cell? ⟨w.heap.size, 1, none⟩ = some (.int .i64 gr.q) := by rw [hW]; simp [go_sem]
          have c0_2 : W.cell? ⟨w.heap.size, 2, none⟩ = some (.int .i64 gr.g) := by rw [hW]; simp [go_sem]
          have c1_0 : W.cell? ⟨w.heap.size + 1, 0, none⟩ = some (.int .i64 bh) := by rw [hW]; simp [go_sem]
          have c1_1 : W.cell? ⟨w.heap.size + 1, 1, none⟩ = some ((.slice bva bvn bvc)) := by rw [hW]; simp [go_sem]
          have HSW : Hid (W.heap.size = w.heap.size + 2) := by unfold Hid; rw [hW]; simp
          go_enter Try.func55, Try.ntmps55
          go_wp2_with fail
          rw [← hW]
          clear hW
          have hc : Below W.heap.size W W := Below.refl _ _
          go_wp2_with fail
          refine (spec_l9Good gr bh _ bl _ (Hbv.out.below (HB.out.trans (hc.mono HB.out.size))) ibh).mono ?_
          rintro e u1 ⟨rfl, hq1⟩
          replace hc := Below.next hc hq1
          replace c0_0 := box_at c0_0 hq1
          replace c0_1 := box_at c0_1 hq1
          replace c0_2 := box_at c0_2 hq1
          replace c1_0 := box_at c1_0 hq1
          replace c1_1 := box_at c1_1 hq1
          clear hq1
          rw [Hhc1.out]
          go_wp2_with fail
          refine (spec_gExps gr _ l _ HG.out (Hv.out.below (HB.out.trans (hc.mono HB.out.size)))).mono ?_
          rintro e u2 ⟨rfl, hq2⟩
          replace hc := Below.next hc hq2
          replace c0_0 := box_at c0_0 hq2
          replace c0_1 := box_at c0_1 hq2
          replace c0_2 := box_at c0_2 hq2
          replace c1_0 := box_at c1_0 hq2
          replace c1_1 := box_at c1_1 hq2
          clear hq2
          rw [Hhc3.out]
          go_wp2_with fail
          refine (spec_gExps gr _ [r] _ HG.out (OwnI.lit (B := 0) _ (Nat.zero_le _) (l := [r]) (AllI64.cons hr AllI64.nil) rfl (by simp [maxLen]) 1 rfl).ints).mono ?_
          rintro e u3 ⟨rfl, hq3⟩
          replace hq3 := Below.next (keep_al (Below.refl _ _) _) hq3
          replace hc := Below.next hc hq3
          replace c0_0 := box_at c0_0 hq3
          replace c0_1 := box_at c0_1 hq3
          replace c0_2 := box_at c0_2 hq3
          replace c1_0 := box_at c1_0 hq3
          replace c1_1 := box_at c1_1 hq3
          clear hq3
          rw [Hhc4.out]
          go_wp2_with fail
          refine (spec_pVector gr bh _ bl _ l r _ HG.out (Hbv.out.below (HB.out.trans (hc.mono HB.out.size))) (Hv.out.below (HB.out.trans (hc.mono HB.out.size))) sbh sbl hr HLB.out).mono ?_
          rintro e u4 ⟨rfl, hq4⟩
          replace hc := Below.next hc hq4
          replace c0_0 := box_at c0_0 hq4
          replace c0_1 := box_at c0_1 hq4
          replace c0_2 := box_at c0_2 hq4
          replace c1_0 := box_at c1_0 hq4
          replace c1_1 := box_at c1_1 hq4
          clear hq4
          go_wp2_with fail
          go_ret2
          exact ⟨rfl, HB.out.trans (hc.mono HB.out.size)⟩
    | true =>
      have HLN : Hid (decide (l.length ≤ bl.length) = false) := by have e1 := Ev.out; have e2 := Ebv.out; have q : (bvn : Int) < vn := of_decide_eq_true hc2; exact decide_eq_false (by omega)
      have hnat : bvn < vn := by have q : (bvn : Int) < vn := of_decide_eq_true hc2; omega
      have hdn : decide (bvn < vn) = true := decide_eq_true hnat
      have HV : Hid ((.tuple #[.int .i64 (cvR gr bh bl l r), .bool (cvB gr bh bl l r)] : Value) = .tuple #[.int .i64 0, .bool false]) := by unfold Hid; simp [cvR, cvB, hc1, hc2, HLN.out]
      rw [HV.out]
      have Hhc1 := Lib.hid hc1
      clear hc1
      obtain ⟨W, hW⟩ : ∃ W, W = (w.alloc (.cells #[.int .i64 gr.p, .int .i64 gr.q, .int .i64 gr.g] 39)).alloc (.cells #[.int .i64 bh, (.slice bva bvn bvc)] 79) := ⟨_, rfl⟩
      have HB : Hid (Below w.heap.size w W) := by unfold Hid; rw [hW]; (repeat (first | exact Below.refl _ _ | assumption | refine Below.drew ?_ | refine Below.alloc ?_ (by first | (simp; done) | (simp; omega)) _ | refine Below.setCell ?_ (by first | (simp; done) | (simp; omega)) _))
      have c0_0 : W.cell? ⟨w.heap.size, 0, none⟩ = some (.int .i64 gr.p) := by rw [hW]; simp [go_sem]
      have c0_1 : W.cell? ⟨w.heap.size, 1, none⟩ = some (.int .i64 gr.q) := by rw [hW]; simp [go_sem]
      have c0_2 : W.cell? ⟨w.heap.size, 2, none⟩ = some (.int .i64 gr.g) := by rw [hW]; simp [go_sem]
      have c1_0 : W.cell? ⟨w.heap.size + 1, 0, none⟩ = some (.int .i64 bh) := by rw [hW]; simp [go_sem]
      have c1_1 : W.cell? ⟨w.heap.size + 1, 1, none⟩ = some ((.slice bva bvn bvc)) := by rw [hW]; simp [go_sem]
      have HSW : Hid (W.heap.size = w.heap.size + 2) := by unfold Hid; rw [hW]; simp
      go_enter Try.func55, Try.ntmps55
      go_wp2_with fail
      rw [← hW]
      clear hW
      have hc : Below W.heap.size W W := Below.refl _ _
      go_wp2_with fail
      refine (spec_l9Good gr bh _ bl _ (Hbv.out.below (HB.out.trans (hc.mono HB.out.size))) ibh).mono ?_
      rintro e u1 ⟨rfl, hq1⟩
      replace hc := Below.next hc hq1
      replace c0_0 := box_at c0_0 hq1
      replace c0_1 := box_at c0_1 hq1
      replace c0_2 := box_at c0_2 hq1
      replace c1_0 := box_at c1_0 hq1
      replace c1_1 := box_at c1_1 hq1
      clear hq1
      rw [Hhc1.out]
      go_wp2_with fail
      go_ret2
      exact ⟨rfl, HB.out.trans (hc.mono HB.out.size)⟩
end Go.Proofs.Ytboahnklilmdpaa

/- SumDealings (printed by gen_sh5.py). -/
import Derived.Test.YtegomgnlhcbmfaaSh4S
import Derived.Test.YtegomgnlhcbmfaaCom1S
namespace Go.Proofs.Ytegomgnlhcbmfaa
open Go.RowKit
set_option linter.unusedSimpArgs false
set_option linter.unusedVariables false

noncomputable def suR (gr : GroupD) (l : List DealingD) : DealingD := if sdB gr l = true then smD gr l else ⟨[], []⟩
/-- a dealing in new memory and a Bool are returned -/
def RetDB (e : Ending) (w : World) (B : Nat) (b : Bool) (d : DealingD) : Prop := ∃ x y, e = .returned (.tuple #[.agg #[x, y], .bool b]) ∧ OwnI w B x d.c ∧ OwnI w B y d.s
theorem RetDB.mk {w : World} {B : Nat} {x y : Value} {b : Bool} {d : DealingD} (h1 : OwnI w B x d.c) (h2 : OwnI w B y d.s) : RetDB (.returned (.tuple #[.agg #[x, y], .bool b])) w B b d := ⟨x, y, rfl, h1, h2⟩
theorem alB_of {gr : GroupD} {l : List DealingD} (h1 : shG gr = true) (h2 : ((l.length : Int) == 0) = false) (h3 : dsB gr l = true) (h4 : (l.any fun d => !smB d (hdD l)) = false) : alB gr l = true := by
  have h : sdB gr l = true := by rw [sdB_alt, h1, h2, h3, h4]; rfl
  unfold sdB at h
  rw [Bool.and_eq_true] at h
  exact h.2
set_option maxRecDepth 100000 in
set_option maxHeartbeats 2000000 in
theorem impl_SumDealings1 (v : Value) (d : DealingD) (b : Nat) (lv : Value) (l : List DealingD) (w : World) (h : (kS rDealing).rd w v d) (hx : w.cell? ⟨b, 0, none⟩ = some lv) (hl : RdR rDealing w lv l) (hl0 : 0 < l.length) :
    Calls Try.prog 135 #[v, .pointer (some ⟨b, 0, none⟩)] w fun e w' => e = .returned (.bool (!smB d (hdD l))) ∧ Below w.heap.size w w' := by
  obtain ⟨a, n, c, rfl⟩ := hl.shape
  have HE := Lib.hid hl.len
  obtain ⟨q, hq⟩ : ∃ q, smB d (hdD l) = q := ⟨_, rfl⟩
  have HQ := Lib.hid hq
  rw [hq]; clear hq
  obtain ⟨lb, lo, a0, n0, c0, a1, n1, c1, e, x0, x1, f0, f1⟩ := RdDl.first hl hl0
  cases e
  rw [← hdD_eq hl0] at f0 f1
  obtain ⟨p0, m0, k0, p1, m1, k1, rfl, g0, g1⟩ := rdDealing.1 h
  obtain ⟨W, hW⟩ : ∃ W, W = w.alloc (.cells #[.slice p0 m0 k0, .slice p1 m1 k1] 66) := ⟨_, rfl⟩
  have HB : Hid (Below w.heap.size w W) := by unfold Hid; rw [hW]; (repeat (first | exact Below.refl _ _ | assumption | refine Below.drew ?_ | refine Below.alloc ?_ (by first | (simp; done) | (simp; omega)) _ | refine Below.setCell ?_ (by first | (simp; done) | (simp; omega)) _))
  have HDl : Hid (DlR W (.agg #[.slice p0 m0 k0, .slice p1 m1 k1]) d) := (DlR.mk g0 g1 : DlR w _ d).below HB.out
  have HHd : Hid (DlR W (.agg #[.slice a0 n0 c0, .slice a1 n1 c1]) (hdD l)) := (DlR.mk f0 f1 : DlR w _ (hdD l)).below HB.out
  clear h g0 g1 f0 f1 hl
  have d0 : W.cell? ⟨w.heap.size, 0, none⟩ = some (.slice p0 m0 k0) := by rw [hW]; simp [go_sem]
  have d1 : W.cell? ⟨w.heap.size, 1, none⟩ = some (.slice p1 m1 k1) := by rw [hW]; simp [go_sem]
  have xb := box_at hx HB.out
  have h0 := box_at x0 HB.out
  have h1 := box_at x1 HB.out
  have hlt := World.block_lt_of_cell? w _ hx
  have hlt2 := World.block_lt_of_cell? w _ x0
  have hk0 : 0 < n := by have := HE.out; omega
  go_enter Try.func135, Try.ntmps135
  go_wp2_with fail
  rw [← hW]
  clear hW hx x0 x1 hl0
  have hc : Below W.heap.size W W := Below.refl _ _
  cases q with
  | false =>
    try (go_wp2_with fail)
    refine wp_region_noPanic ?_
    refine wp_region_P (fun w' => w'.cell? ⟨w.heap.size, 0, none⟩ = some (.slice p0 m0 k0) ∧ w'.cell? ⟨w.heap.size, 1, none⟩ = some (.slice p1 m1 k1) ∧ w'.cell? ⟨b, 0, none⟩ = some (.slice (some ⟨lb, lo, none⟩) n c) ∧ w'.cell? ⟨lb, lo, none⟩ = some (.slice a0 n0 c0) ∧ w'.cell? ⟨lb, lo + 1, none⟩ = some (.slice a1 n1 c1)) 9 [(0, []), (1, []), (2, [0]), (3, [0]), (4, [3, 0]), (5, [0]), (6, [0])] [] (by kernel_rfl) (by kernel_rfl) (by kernel_rfl) rfl (fun _ _ _ _ h => h) (fun w' h => ⟨box_at d0 h, box_at d1 h, box_at xb h, box_at h0 h, box_at h1 h⟩) ?_
    simp only [pickP, pickN, List.getElem?_cons_zero, List.getElem?_cons_succ]
    iterate 4 (refine' chainP_read _ rfl rfl (fun w' hS' => ?_) ?_; rotate_left; · (simp only [lookP, allP, Act.put, List.getElem?_cons_zero, List.getElem?_cons_succ, List.setIfInBounds_toArray, List.set_cons_zero, List.set_cons_succ]; (try dsimp only at hS'); go_simp; (try with_reducible rfl)))
    -- 4: call { callee := value (func 136), args := #[t4, t7], argTypes := #[66, 66] }
    refine chainP_call (d := (some 8)) (.bool false) rfl rfl (fun w' hS' => ?_) ?_
    · simp only [lookP, allP, Act.put, List.getElem?_cons_zero, List.getElem?_cons_succ, List.setIfInBounds_toArray, List.set_cons_zero, List.set_cons_succ]
      intro K hK
      go_simp
      go_at_call 136
      refine (impl_sameShape _ _ d (hdD l) _ (HDl.out.below hS'.1) (HHd.out.below hS'.1)).mono ?_
      rintro e u ⟨rfl, hq⟩
      rw [HQ.out]
      exact hK.out _ hq
    iterate 2 (refine' chainP_read _ rfl rfl (fun w' hS' => ?_) ?_; rotate_left; · (simp only [lookP, allP, Act.put, List.getElem?_cons_zero, List.getElem?_cons_succ, List.setIfInBounds_toArray, List.set_cons_zero, List.set_cons_succ]; (try dsimp only at hS'); go_simp; (try with_reducible rfl)))
    refine chainP_nil (fun ua hS' => ?_)
    simp only [allP, Act.put, List.setIfInBounds_toArray, List.set_cons_zero, List.set_cons_succ]
    have hq1 := hS'.1
    clear hS'
    replace hc := Below.next hc hq1
    replace d0 := box_at d0 hq1
    replace d1 := box_at d1 hq1
    replace xb := box_at xb hq1
    replace h0 := box_at h0 hq1
    replace h1 := box_at h1 hq1
    clear hq1
    go_wp2_with fail
    refine NoPanic.normal ?_
    (try (go_wp2_with fail))
    go_ret
    exact ⟨rfl, HB.out.trans (hc.mono HB.out.size)⟩
  | true =>
    try (go_wp2_with fail)
    refine wp_region_noPanic ?_
    refine wp_region_P (fun w' => w'.cell? ⟨w.heap.size, 0, none⟩ = some (.slice p0 m0 k0) ∧ w'.cell? ⟨w.heap.size, 1, none⟩ = some (.slice p1 m1 k1) ∧ w'.cell? ⟨b, 0, none⟩ = some (.slice (some ⟨lb, lo, none⟩) n c) ∧ w'.cell? ⟨lb, lo, none⟩ = some (.slice a0 n0 c0) ∧ w'.cell? ⟨lb, lo + 1, none⟩ = some (.slice a1 n1 c1)) 9 [(0, []), (1, []), (2, [0]), (3, [0]), (4, [3, 0]), (5, [0]), (6, [0])] [] (by kernel_rfl) (by kernel_rfl) (by kernel_rfl) rfl (fun _ _ _ _ h => h) (fun w' h => ⟨box_at d0 h, box_at d1 h, box_at xb h, box_at h0 h, box_at h1 h⟩) ?_
    simp only [pickP, pickN, List.getElem?_cons_zero, List.getElem?_cons_succ]
    iterate 4 (refine' chainP_read _ rfl rfl (fun w' hS' => ?_) ?_; rotate_left; · (simp only [lookP, allP, Act.put, List.getElem?_cons_zero, List.getElem?_cons_succ, List.setIfInBounds_toArray, List.set_cons_zero, List.set_cons_succ]; (try dsimp only at hS'); go_simp; (try with_reducible rfl)))
    -- 4: call { callee := value (func 136), args := #[t4, t7], argTypes := #[66, 66] }
    refine chainP_call (d := (some 8)) (.bool true) rfl rfl (fun w' hS' => ?_) ?_
    · simp only [lookP, allP, Act.put, List.getElem?_cons_zero, List.getElem?_cons_succ, List.setIfInBounds_toArray, List.set_cons_zero, List.set_cons_succ]
      intro K hK
      go_simp
      go_at_call 136
      refine (impl_sameShape _ _ d (hdD l) _ (HDl.out.below hS'.1) (HHd.out.below hS'.1)).mono ?_
      rintro e u ⟨rfl, hq⟩
      rw [HQ.out]
      exact hK.out _ hq
    iterate 2 (refine' chainP_read _ rfl rfl (fun w' hS' => ?_) ?_; rotate_left; · (simp only [lookP, allP, Act.put, List.getElem?_cons_zero, List.getElem?_cons_succ, List.setIfInBounds_toArray, List.set_cons_zero, List.set_cons_succ]; (try dsimp only at hS'); go_simp; (try with_reducible rfl)))
    refine chainP_nil (fun ua hS' => ?_)
    simp only [allP, Act.put, List.setIfInBounds_toArray, List.set_cons_zero, List.set_cons_succ]
    have hq1 := hS'.1
    clear hS'
    replace hc := Below.next hc hq1
    replace d0 := box_at d0 hq1
    replace d1 := box_at d1 hq1
    replace xb := box_at xb hq1
    replace h0 := box_at h0 hq1
    replace h1 := box_at h1 hq1
    clear hq1
    go_wp2_with fail
    refine NoPanic.normal ?_
    (try (go_wp2_with fail))
    go_ret
    exact ⟨rfl, HB.out.trans (hc.mono HB.out.size)⟩
set_option maxRecDepth 100000 in
set_option maxHeartbeats 2000000 in
theorem impl_SumDealings (gr : GroupD) (lv : Value) (l : List DealingD) (w : World) (hl : RdR rDealing w lv l) :
    Calls Try.prog 36 #[.agg #[.int .i64 gr.p, .int .i64 gr.q, .int .i64 gr.g], lv] w fun e w' => RetDB e w' w.heap.size (sdB gr l) (suR gr l) ∧ Below w.heap.size w w' := by
  obtain ⟨lva, lvn, lvc, rfl⟩ := hl.shape
  have Elv := Lib.hid hl.len
  have Klv := Lib.hid hl.capMax
  have Hlv := Lib.hid hl
  clear hl
  obtain ⟨W, hW⟩ : ∃ W, W = ((w.alloc (.cells #[.int .i64 gr.p, .int .i64 gr.q, .int .i64 gr.g] 24)).alloc (.cells #[(.slice lva lvn lvc)] 62)).alloc (.cells #[(.slice none 0 0), (.slice none 0 0)] 66) := ⟨_, rfl⟩
  have HB : Hid (Below w.heap.size w W) := by unfold Hid; rw [hW]; (repeat (first | exact Below.refl _ _ | assumption | refine Below.drew ?_ | refine Below.alloc ?_ (by first | (simp; done) | (simp; omega)) _ | refine Below.setCell ?_ (by first | (simp; done) | (simp; omega)) _))
  have c0_0 : W.cell? ⟨w.heap.size, 0, none⟩ = some (.int .i64 gr.p) := by rw [hW]; simp [go_sem]
  have c0_1 : W.cell? ⟨w.heap.size, 1, none⟩ = some (.int .i64 gr.q) := by rw [hW]; simp [go_sem]
  have c0_2 : W.cell? ⟨w.heap.size, 2, none⟩ = some (.int .i64 gr.g) := by rw [hW]; simp [go_sem]
  have c1_0 : W.cell? ⟨w.heap.size + 1, 0, none⟩ = some ((.slice lva lvn lvc)) := by rw [hW]; simp [go_sem]
  have HR2 : Hid (BoxN W (w.heap.size + 1 + 1) 66 [(.slice none 0 0), (.slice none 0 0)]) := by unfold Hid; rw [hW]; have h := (BoxN.new ((w.alloc (.cells #[.int .i64 gr.p, .int .i64 gr.q, .int .i64 gr.g] 24)).alloc (.cells #[(.slice lva lvn lvc)] 62)) [(.slice none 0 0), (.slice none 0 0)] 66); simpa using h
  have HSW : Hid (W.heap.size = w.heap.size + 3) := by unfold Hid; rw [hW]; simp
  have lr2 : w.heap.size + 1 + 1 < W.heap.size := by have := HSW.out; omega
  go_enter Try.func36, Try.ntmps36
  go_wp2_with fail
  rw [← hW]
  have hse : w.heap.size + 1 + 1 + 1 = W.heap.size := by have := HSW.out; omega
  (try rw [hse])
  clear hse
  clear hW
  have hc : Below W.heap.size W W := Below.refl _ _
  have HCC : Hid (∀ u, Below W.heap.size W u → u.cell? ⟨w.heap.size, 0, none⟩ = some (.int .i64 gr.p) ∧ u.cell? ⟨w.heap.size, 1, none⟩ = some (.int .i64 gr.q) ∧ u.cell? ⟨w.heap.size, 2, none⟩ = some (.int .i64 gr.g) ∧ u.cell? ⟨w.heap.size + 1, 0, none⟩ = some ((.slice lva lvn lvc))) := fun u h => ⟨box_at c0_0 h, box_at c0_1 h, box_at c0_2 h, box_at c1_0 h⟩
  go_wp2_with fail
  refine (impl_isSharing gr _).mono ?_
  rintro e u1 ⟨rfl, hq1⟩
  replace hc := Below.next hc hq1
  clear hq1 c0_0 c0_1 c0_2 c1_0
  obtain ⟨c0_0, c0_1, c0_2, c1_0⟩ := HCC.out _ hc
  cases hc1 : shG gr with
  | false =>
    have Hhc1 := Lib.hid hc1
    clear hc1
    have HRE2 := Lib.hid (HR2.out.below hc)
    clear HR2
    have HBE := Lib.hid (HB.out.trans (hc.mono HB.out.size))
    have r2_0 := HRE2.out.cell (i := 0) rfl
    have r2_1 := HRE2.out.cell (i := 1) rfl
    have fr2 := fun j => HRE2.out.frozen j
    go_wp2_with fail
    have HRF := Lib.hid ((HRE2.out.set 0 ((.slice none 0 0))).set 1 ((.slice none 0 0)))
    have HBF := Lib.hid ((HBE.out.setCell (p := ⟨w.heap.size + 1 + 1, 0, none⟩) (by show w.heap.size ≤ w.heap.size + 1 + 1; omega) ((.slice none 0 0))).setCell (p := ⟨w.heap.size + 1 + 1, 1, none⟩) (by show w.heap.size ≤ w.heap.size + 1 + 1; omega) ((.slice none 0 0)))
    clear r2_0 r2_1 fr2
    have r2_0 := HRF.out.cell (i := 0) rfl
    have r2_1 := HRF.out.cell (i := 1) rfl
    try (go_wp2_with fail)
    have HVB : Hid (sdB gr l = false) := by unfold Hid; simp [sdB_alt, Hhc1.out]
    have HPR : Hid (suR gr l = ⟨[], []⟩) := by unfold Hid suR; rw [if_neg (by rw [HVB.out]; simp)]
    refine bodyPost_ret (v := .tuple #[.agg #[(.slice none 0 0), (.slice none 0 0)], .bool false]) (by simp [results, Try.results36, go_sem, r2_0, r2_1]) rfl ⟨(by rw [HVB.out, HPR.out]; exact RetDB.mk (OwnI.nil _ _) (OwnI.nil _ _)), HBF.out⟩
  | true =>
    have HSG := Lib.hid hc1
    have HG := Lib.hid (shG_ok hc1)
    have Hhc1 := Lib.hid hc1
    clear hc1
    cases hc2 : ((lvn : Int) == 0) with
    | false =>
      have HL0 : Hid (((l.length : Int) == 0) = false) := by have q := hc2; unfold Hid; rw [Elv.out]; exact q
      have HLP : Hid (0 < l.length) := by have q := hc2; rw [beq_eq_false_iff_ne] at q; have := Elv.out; unfold Hid; omega
      go_wp2_with fail
      refine (impl_hasDealings gr _ l _ HG.out (Hlv.out.below (HB.out.trans (hc.mono HB.out.size)))).mono ?_
      rintro e u2 ⟨rfl, hq2⟩
      replace hc := Below.next hc hq2
      clear hq2 c0_0 c0_1 c0_2 c1_0
      obtain ⟨c0_0, c0_1, c0_2, c1_0⟩ := HCC.out _ hc
      cases hc3 : dsB gr l with
      | false =>
        have Hhc3 := Lib.hid hc3
        clear hc3
        have HRE2 := Lib.hid (HR2.out.below hc)
        clear HR2
        have HBE := Lib.hid (HB.out.trans (hc.mono HB.out.size))
        have r2_0 := HRE2.out.cell (i := 0) rfl
        have r2_1 := HRE2.out.cell (i := 1) rfl
        have fr2 := fun j => HRE2.out.frozen j
        go_wp2_with fail
        have HRF := Lib.hid ((HRE2.out.set 0 ((.slice none 0 0))).set 1 ((.slice none 0 0)))
        have HBF := Lib.hid ((HBE.out.setCell (p := ⟨w.heap.size + 1 + 1, 0, none⟩) (by show w.heap.size ≤ w.heap.size + 1 + 1; omega) ((.slice none 0 0))).setCell (p := ⟨w.heap.size + 1 + 1, 1, none⟩) (by show w.heap.size ≤ w.heap.size + 1 + 1; omega) ((.slice none 0 0)))
        clear r2_0 r2_1 fr2
        have r2_0 := HRF.out.cell (i := 0) rfl
        have r2_1 := HRF.out.cell (i := 1) rfl
        try (go_wp2_with fail)
        have HVB : Hid (sdB gr l = false) := by unfold Hid; simp [sdB_alt, Hhc1.out, Hhc3.out, HL0.out]
        have HPR : Hid (suR gr l = ⟨[], []⟩) := by unfold Hid suR; rw [if_neg (by rw [HVB.out]; simp)]
        refine bodyPost_ret (v := .tuple #[.agg #[(.slice none 0 0), (.slice none 0 0)], .bool false]) (by simp [results, Try.results36, go_sem, r2_0, r2_1]) rfl ⟨(by rw [HVB.out, HPR.out]; exact RetDB.mk (OwnI.nil _ _) (OwnI.nil _ _)), HBF.out⟩
      | true =>
        have HDS := Lib.hid hc3
        have HDEC : Hid (DecidesS rDealing u2 135 #[.pointer (some ⟨w.heap.size + 1, 0, none⟩)] (fun d => !smB d (hdD l))) := ⟨Try.call135, fun v d wr hx hb => impl_SumDealings1 v d _ _ l wr hx (box_at c1_0 hb) ((Hlv.out.below (HB.out.trans (hc.mono HB.out.size))).below hb) HLP.out⟩
        have Hhc3 := Lib.hid hc3
        clear hc3
        go_wp2_with fail
        refine (slices_ContainsFuncDealing _ l _ _ (fun d => !smB d (hdD l)) _ (Hlv.out.below (HB.out.trans (hc.mono HB.out.size))) HDEC.out).mono ?_
        rintro e u3 ⟨rfl, hq3⟩
        replace hc := Below.next hc hq3
        clear hq3 c0_0 c0_1 c0_2 c1_0
        obtain ⟨c0_0, c0_1, c0_2, c1_0⟩ := HCC.out _ hc
        cases hc4 : (l.any fun d => !smB d (hdD l)) with
        | false =>
          have HAL := Lib.hid (alB_of HSG.out HL0.out HDS.out hc4)
          have Hhc4 := Lib.hid hc4
          clear hc4
          go_wp2_with fail
          refine (impl_sumOf gr _ l _ HG.out (Hlv.out.below (HB.out.trans (hc.mono HB.out.size))) HAL.out).mono ?_
          rintro e u4 ⟨⟨x0, x1, rfl, ho0, ho1⟩, hq4⟩
          have hszv := hc.size
          obtain ⟨xa0, xc0, rfl⟩ := OwnI.shapeN (n := (smD gr l).c.length) ho0 rfl
          obtain ⟨xa1, xc1, rfl⟩ := OwnI.shapeN (n := (smD gr l).s.length) ho1 rfl
          replace hc := Below.next hc hq4
          clear hq4 c0_0 c0_1 c0_2 c1_0
          obtain ⟨c0_0, c0_1, c0_2, c1_0⟩ := HCC.out _ hc
          have HRE2 := Lib.hid (HR2.out.below hc)
          clear HR2
          have HBE := Lib.hid (HB.out.trans (hc.mono HB.out.size))
          have r2_0 := HRE2.out.cell (i := 0) rfl
          have r2_1 := HRE2.out.cell (i := 1) rfl
          have fr2 := fun j => HRE2.out.frozen j
          go_wp2_with fail
          have HRF := Lib.hid ((HRE2.out.set 0 ((.slice xa0 (smD gr l).c.length xc0))).set 1 ((.slice xa1 (smD gr l).s.length xc1)))
          have HBF := Lib.hid ((HBE.out.setCell (p := ⟨w.heap.size + 1 + 1, 0, none⟩) (by show w.heap.size ≤ w.heap.size + 1 + 1; omega) ((.slice xa0 (smD gr l).c.length xc0))).setCell (p := ⟨w.heap.size + 1 + 1, 1, none⟩) (by show w.heap.size ≤ w.heap.size + 1 + 1; omega) ((.slice xa1 (smD gr l).s.length xc1)))
          clear r2_0 r2_1 fr2
          have r2_0 := HRF.out.cell (i := 0) rfl
          have r2_1 := HRF.out.cell (i := 1) rfl
          try (go_wp2_with fail)
          have HVB : Hid (sdB gr l = true) := by unfold Hid; simp [sdB_alt, Hhc1.out, Hhc3.out, Hhc4.out, HL0.out]
          have HPR : Hid (suR gr l = smD gr l) := by unfold Hid suR; rw [if_pos (by rw [HVB.out])]
          refine bodyPost_ret (v := .tuple #[.agg #[(.slice xa0 (smD gr l).c.length xc0), (.slice xa1 (smD gr l).s.length xc1)], .bool true]) (by simp [results, Try.results36, go_sem, r2_0, r2_1]) rfl ⟨(by rw [HVB.out, HPR.out]; exact RetDB.mk (((ho0.oth (b := w.heap.size + 1 + 1) (by omega) 0 ((.slice xa0 (smD gr l).c.length xc0))).oth (b := w.heap.size + 1 + 1) (by omega) 1 ((.slice xa1 (smD gr l).s.length xc1))).mono (by omega)) (((ho1.oth (b := w.heap.size + 1 + 1) (by omega) 0 ((.slice xa0 (smD gr l).c.length xc0))).oth (b := w.heap.size + 1 + 1) (by omega) 1 ((.slice xa1 (smD gr l).s.length xc1))).mono (by omega))), HBF.out⟩
        | true =>
          have Hhc4 := Lib.hid hc4
          clear hc4
          have HRE2 := Lib.hid (HR2.out.below hc)
          clear HR2
          have HBE := Lib.hid (HB.out.trans (hc.mono HB.out.size))
          have r2_0 := HRE2.out.cell (i := 0) rfl
          have r2_1 := HRE2.out.cell (i := 1) rfl
          have fr2 := fun j => HRE2.out.frozen j
          go_wp2_with fail
          have HRF := Lib.hid ((HRE2.out.set 0 ((.slice none 0 0))).set 1 ((.slice none 0 0)))
          have HBF := Lib.hid ((HBE.out.setCell (p := ⟨w.heap.size + 1 + 1, 0, none⟩) (by show w.heap.size ≤ w.heap.size + 1 + 1; omega) ((.slice none 0 0))).setCell (p := ⟨w.heap.size + 1 + 1, 1, none⟩) (by show w.heap.size ≤ w.heap.size + 1 + 1; omega) ((.slice none 0 0)))
          clear r2_0 r2_1 fr2
          have r2_0 := HRF.out.cell (i := 0) rfl
          have r2_1 := HRF.out.cell (i := 1) rfl
          try (go_wp2_with fail)
          have HVB : Hid (sdB gr l = false) := by unfold Hid; simp [sdB_alt, Hhc1.out, Hhc3.out, Hhc4.out, HL0.out]
          have HPR : Hid (suR gr l = ⟨[], []⟩) := by unfold Hid suR; rw [if_neg (by rw [HVB.out]; simp)]
          refine bodyPost_ret (v := .tuple #[.agg #[(.slice none 0 0), (.slice none 0 0)], .bool false]) (by simp [results, Try.results36, go_sem, r2_0, r2_1]) rfl ⟨(by rw [HVB.out, HPR.out]; exact RetDB.mk (OwnI.nil _ _) (OwnI.nil _ _)), HBF.out⟩
    | true =>
      have HL0 : Hid (((l.length : Int) == 0) = true) := by have q := hc2; unfold Hid; rw [Elv.out]; exact q
      have HRE2 := Lib.hid (HR2.out.below hc)
      clear HR2
      have HBE := Lib.hid (HB.out.trans (hc.mono HB.out.size))
      have r2_0 := HRE2.out.cell (i := 0) rfl
      have r2_1 := HRE2.out.cell (i := 1) rfl
      have fr2 := fun j => HRE2.out.frozen j
      go_wp2_with fail
      have HRF := Lib.hid ((HRE2.out.set 0 ((.slice none 0 0))).set 1 ((.slice none 0 0)))
      have HBF := Lib.hid ((HBE.out.setCell (p := ⟨w.heap.size + 1 + 1, 0, none⟩) (by show w.heap.size ≤ w.heap.size + 1 + 1; omega) ((.slice none 0 0))).setCell (p := ⟨w.heap.size + 1 + 1, 1, none⟩) (by show w.heap.size ≤ w.heap.size + 1 + 1; omega) ((.slice none 0 0)))
      clear r2_0 r2_1 fr2
      have r2_0 := HRF.out.cell (i := 0) rfl
      have r2_1 := HRF.out.cell (i := 1) rfl
      try (go_wp2_with fail)
      have HVB : Hid (sdB gr l = false) := by unfold Hid; simp [sdB_alt, Hhc1.out, HL0.out]
      have HPR : Hid (suR gr l = ⟨[], []⟩) := by unfold Hid suR; rw [if_neg (by rw [HVB.out]; simp)]
      refine bodyPost_ret (v := .tuple #[.agg #[(.slice none 0 0), (.slice none 0 0)], .bool false]) (by simp [results, Try.results36, go_sem, r2_0, r2_1]) rfl ⟨(by rw [HVB.out, HPR.out]; exact RetDB.mk (OwnI.nil _ _) (OwnI.nil _ _)), HBF.out⟩
set_option maxRecDepth 100000 in
set_option maxHeartbeats 2000000 in
theorem spec_SumDealings (gr : GroupD) (lv : Value) (l : List DealingD) (w : World) (hl : RdR rDealing w lv l) :
    Calls Try.prog 37 #[.agg #[.int .i64 gr.p, .int .i64 gr.q, .int .i64 gr.g], lv] w fun e w' => RetDB e w' w.heap.size (sdB gr l) (suR gr l) ∧ Below w.heap.size w w' := by
  obtain ⟨lva, lvn, lvc, rfl⟩ := hl.shape
  have Elv := Lib.hid hl.len
  have Klv := Lib.hid hl.capMax
  have Hlv := Lib.hid hl
  clear hl
  obtain ⟨W, hW⟩ : ∃ W, W = (w.alloc (.cells #[.int .i64 gr.p, .int .i64 gr.q, .int .i64 gr.g] 24)).alloc (.cells #[(.slice none 0 0), (.slice none 0 0)] 66) := ⟨_, rfl⟩
  have HB : Hid (Below w.heap.size w W) := by unfold Hid; rw [hW]; (repeat (first | exact Below.refl _ _ | assumption | refine Below.drew ?_ | refine Below.alloc ?_ (by first | (simp; done) | (simp; omega)) _ | refine Below.setCell ?_ (by first | (simp; done) | (simp; omega)) _))
  have c0_0 : W.cell? ⟨w.heap.size, 0, none⟩ = some (.int .i64 gr.p) := by rw [hW]; simp [go_sem]
  have c0_1 : W.cell? ⟨w.heap.size, 1, none⟩ = some (.int .i64 gr.q) := by rw [hW]; simp [go_sem]
  have c0_2 : W.cell? ⟨w.heap.size, 2, none⟩ = some (.int .i64 gr.g) := by rw [hW]; simp [go_sem]
  have HR1 : Hid (BoxN W (w.heap.size + 1) 66 [(.slice none 0 0), (.slice none 0 0)]) := by unfold Hid; rw [hW]; have h := (BoxN.new (w.alloc (.cells #[.int .i64 gr.p, .int .i64 gr.q, .int .i64 gr.g] 24)) [(.slice none 0 0), (.slice none 0 0)] 66); simpa using h
  have HSW : Hid (W.heap.size = w.heap.size + 2) := by unfold Hid; rw [hW]; simp
  have lr1 : w.heap.size + 1 < W.heap.size := by have := HSW.out; omega
  go_enter Try.func37, Try.ntmps37
  go_wp2_with fail
  rw [← hW]
  have hse : w.heap.size + 1 + 1 = W.heap.size := by have := HSW.out; omega
  (try rw [hse])
  clear hse
  clear hW
  have hc : Below W.heap.size W W := Below.refl _ _
  have HCC : Hid (∀ u, Below W.heap.size W u → u.cell? ⟨w.heap.size, 0, none⟩ = some (.int .i64 gr.p) ∧ u.cell? ⟨w.heap.size, 1, none⟩ = some (.int .i64 gr.q) ∧ u.cell? ⟨w.heap.size, 2, none⟩ = some (.int .i64 gr.g)) := fun u h => ⟨box_at c0_0 h, box_at c0_1 h, box_at c0_2 h⟩
  go_wp2_with fail
  refine (spec_sGroup gr _).mono ?_
  rintro e u1 ⟨rfl, hq1⟩
  replace hc := Below.next hc hq1
  clear hq1 c0_0 c0_1 c0_2
  obtain ⟨c0_0, c0_1, c0_2⟩ := HCC.out _ hc
  cases hc1 : shG gr with
  | false =>
    have Hhc1 := Lib.hid hc1
    clear hc1
    have HRE1 := Lib.hid (HR1.out.below hc)
    clear HR1
    have HBE := Lib.hid (HB.out.trans (hc.mono HB.out.size))
    have r1_0 := HRE1.out.cell (i := 0) rfl
    have r1_1 := HRE1.out.cell (i := 1) rfl
    have fr1 := fun j => HRE1.out.frozen j
    go_wp2_with fail
    have HRF := Lib.hid ((HRE1.out.set 0 ((.slice none 0 0))).set 1 ((.slice none 0 0)))
    have HBF := Lib.hid ((HBE.out.setCell (p := ⟨w.heap.size + 1, 0, none⟩) (by show w.heap.size ≤ w.heap.size + 1; omega) ((.slice none 0 0))).setCell (p := ⟨w.heap.size + 1, 1, none⟩) (by show w.heap.size ≤ w.heap.size + 1; omega) ((.slice none 0 0)))
    clear r1_0 r1_1 fr1
    have r1_0 := HRF.out.cell (i := 0) rfl
    have r1_1 := HRF.out.cell (i := 1) rfl
    try (go_wp2_with fail)
    have HVB : Hid (sdB gr l = false) := by unfold Hid; simp [sdB, Hhc1.out]
    have HPR : Hid (suR gr l = ⟨[], []⟩) := by unfold Hid suR; rw [if_neg (by rw [HVB.out]; simp)]
    refine bodyPost_ret (v := .tuple #[.agg #[(.slice none 0 0), (.slice none 0 0)], .bool false]) (by simp [results, Try.results37, go_sem, r1_0, r1_1]) rfl ⟨(by rw [HVB.out, HPR.out]; exact RetDB.mk (OwnI.nil _ _) (OwnI.nil _ _)), HBF.out⟩
  | true =>
    have HSG := Lib.hid hc1
    have HG := Lib.hid (shG_ok hc1)
    have Hhc1 := Lib.hid hc1
    clear hc1
    go_wp2_with fail
    refine (spec_sAlike gr _ l _ HG.out (Hlv.out.below (HB.out.trans (hc.mono HB.out.size)))).mono ?_
    rintro e u2 ⟨rfl, hq2⟩
    replace hc := Below.next hc hq2
    clear hq2 c0_0 c0_1 c0_2
    obtain ⟨c0_0, c0_1, c0_2⟩ := HCC.out _ hc
    cases hc2 : alB gr l with
    | false =>
      have Hhc2 := Lib.hid hc2
      clear hc2
      have HRE1 := Lib.hid (HR1.out.below hc)
      clear HR1
      have HBE := Lib.hid (HB.out.trans (hc.mono HB.out.size))
      have r1_0 := HRE1.out.cell (i := 0) rfl
      have r1_1 := HRE1.out.cell (i := 1) rfl
      have fr1 := fun j => HRE1.out.frozen j
      go_wp2_with fail
      have HRF := Lib.hid ((HRE1.out.set 0 ((.slice none 0 0))).set 1 ((.slice none 0 0)))
      have HBF := Lib.hid ((HBE.out.setCell (p := ⟨w.heap.size + 1, 0, none⟩) (by show w.heap.size ≤ w.heap.size + 1; omega) ((.slice none 0 0))).setCell (p := ⟨w.heap.size + 1, 1, none⟩) (by show w.heap.size ≤ w.heap.size + 1; omega) ((.slice none 0 0)))
      clear r1_0 r1_1 fr1
      have r1_0 := HRF.out.cell (i := 0) rfl
      have r1_1 := HRF.out.cell (i := 1) rfl
      try (go_wp2_with fail)
      have HVB : Hid (sdB gr l = false) := by unfold Hid; simp [sdB, Hhc1.out, Hhc2.out]
      have HPR : Hid (suR gr l = ⟨[], []⟩) := by unfold Hid suR; rw [if_neg (by rw [HVB.out]; simp)]
      refine bodyPost_ret (v := .tuple #[.agg #[(.slice none 0 0), (.slice none 0 0)], .bool false]) (by simp [results, Try.results37, go_sem, r1_0, r1_1]) rfl ⟨(by rw [HVB.out, HPR.out]; exact RetDB.mk (OwnI.nil _ _) (OwnI.nil _ _)), HBF.out⟩
    | true =>
      have HAL := Lib.hid hc2
      have Hhc2 := Lib.hid hc2
      clear hc2
      go_wp2_with fail
      refine (spec_sSum gr _ l _ HG.out (Hlv.out.below (HB.out.trans (hc.mono HB.out.size))) HAL.out).mono ?_
      rintro e u3 ⟨⟨x0, x1, rfl, ho0, ho1⟩, hq3⟩
      have hszv := hc.size
      obtain ⟨xa0, xc0, rfl⟩ := OwnI.shapeN (n := (smD gr l).c.length) ho0 rfl
      obtain ⟨xa1, xc1, rfl⟩ := OwnI.shapeN (n := (smD gr l).s.length) ho1 rfl
      replace hc := Below.next hc hq3
      clear hq3 c0_0 c0_1 c0_2
      obtain ⟨c0_0, c0_1, c0_2⟩ := HCC.out _ hc
      have HRE1 := Lib.hid (HR1.out.below hc)
      clear HR1
      have HBE := Lib.hid (HB.out.trans (hc.mono HB.out.size))
      have r1_0 := HRE1.out.cell (i := 0) rfl
      have r1_1 := HRE1.out.cell (i := 1) rfl
      have fr1 := fun j => HRE1.out.frozen j
      go_wp2_with fail
      have HRF := Lib.hid ((HRE1.out.set 0 ((.slice xa0 (smD gr l).c.length xc0))).set 1 ((.slice xa1 (smD gr l).s.length xc1)))
      have HBF := Lib.hid ((HBE.out.setCell (p := ⟨w.heap.size + 1, 0, none⟩) (by show w.heap.size ≤ w.heap.size + 1; omega) ((.slice xa0 (smD gr l).c.length xc0))).setCell (p := ⟨w.heap.size + 1, 1, none⟩) (by show w.heap.size ≤ w.heap.size + 1; omega) ((.slice xa1 (smD gr l).s.length xc1)))
      clear r1_0 r1_1 fr1
      have r1_0 := HRF.out.cell (i := 0) rfl
      have r1_1 := HRF.out.cell (i := 1) rfl
      try (go_wp2_with fail)
      have HVB : Hid (sdB gr l = true) := by unfold Hid; simp [sdB, Hhc1.out, Hhc2.out]
      have HPR : Hid (suR gr l = smD gr l) := by unfold Hid suR; rw [if_pos (by rw [HVB.out])]
      refine bodyPost_ret (v := .tuple #[.agg #[(.slice xa0 (smD gr l).c.length xc0), (.slice xa1 (smD gr l).s.length xc1)], .bool true]) (by simp [results, Try.results37, go_sem, r1_0, r1_1]) rfl ⟨(by rw [HVB.out, HPR.out]; exact RetDB.mk (((ho0.oth (b := w.heap.size + 1) (by omega) 0 ((.slice xa0 (smD gr l).c.length xc0))).oth (b := w.heap.size + 1) (by omega) 1 ((.slice xa1 (smD gr l).s.length xc1))).mono (by omega)) (((ho1.oth (b := w.heap.size + 1) (by omega) 0 ((.slice xa0 (smD gr l).c.length xc0))).oth (b := w.heap.size + 1) (by omega) 1 ((.slice xa1 (smD gr l).s.length xc1))).mono (by omega))), HBF.out⟩
end Go.Proofs.Ytegomgnlhcbmfaa
namespace Go.Proofs.Ytegomgnlhcbmfaa
open Go.RowKit
set_option linter.unusedSimpArgs false
set_option linter.unusedVariables false

theorem smL_nth (f : Int → Int → Int) (a b : List Int) (j : Nat) : ∀ k, k ≤ a.length → nth (smL f a b k) j = if j < k then f (nth a j) (nth b j) else nth a j := by
  intro k
  induction k with
  | zero => intro _; simp [smL]
  | succ k ih =>
    intro hk
    have ih := ih (by omega)
    have hl := smL_len f a b k
    unfold smL
    by_cases e : j = k
    · subst e
      have h1 : nth ((smL f a b j).set j (f (nth (smL f a b j) j) (nth b j))) j = f (nth (smL f a b j) j) (nth b j) := by
        simp [nth, List.getD, show j < (smL f a b j).length by omega]
      rw [h1, ih]; simp
    · have h1 : nth ((smL f a b k).set k (f (nth (smL f a b k) k) (nth b k))) j = nth (smL f a b k) j := by
        simp [nth, List.getD, List.getElem?_set_ne (show k ≠ j by omega)]
      rw [h1, ih]
      by_cases h2 : j < k
      · rw [if_pos h2, if_pos (by omega)]
      · rw [if_neg h2, if_neg (by omega)]
theorem smL_all_nth (f : Int → Int → Int) {a b : List Int} (hl : a.length = b.length) {j : Nat} (hj : j < b.length) : nth (smL f a b b.length) j = f (nth a j) (nth b j) := by
  rw [smL_nth f a b j _ (by omega), if_pos hj]
theorem atS_two (gr : GroupD) (i : Int) (a b : List Int) (k : Nat) : (atS gr i a k).2 = (atS gr i b k).2 := by
  induction k with
  | zero => rfl
  | succ k ih => unfold atS; show _ * i % gr.q = _ * i % gr.q; rw [ih]
theorem mul4_mod (a b c d p : Int) : (a * b % p) * (c * d % p) % p = (a * c % p) * (b * d % p) % p := by
  rw [← Int.mul_emod, ← Int.mul_emod]; congr 1; ac_rfl
theorem atS_sum {gr : GroupD} (hg : OkG gr) (i : Int) {a b : List Int} (hl : a.length = b.length) : ∀ k, k ≤ b.length → (atS gr i (smL (mulF gr) a b b.length) k).1 = (atS gr i a k).1 * (atS gr i b k).1 % gr.p := by
  intro k
  induction k with
  | zero =>
    intro _
    have h1 := hg.q1; have h2 := hg.q2
    show (1 : Int) = 1 * 1 % gr.p
    rw [Int.one_mul, Int.emod_eq_of_lt (by omega) (by omega)]
  | succ k ih =>
    intro hk
    have ih := ih (by omega)
    have e : nth (smL (mulF gr) a b b.length) k = nth a k * nth b k % gr.p := by
      rw [smL_all_nth _ hl (by omega)]; unfold mulF; rw [mulT]
    unfold atS
    show mulL gr [_, powE gr (nth (smL (mulF gr) a b b.length) k) _] = _
    rw [e, mulT, mulT, mulT, ih, powE_mulB, atS_two gr i (smL (mulF gr) a b b.length) b k, atS_two gr i a b k]
    rw [mul4_mod, ← Int.mul_emod]
theorem atE_sum {gr : GroupD} (hg : OkG gr) (i : Int) {a b : List Int} (hl : a.length = b.length) : atE gr (smL (mulF gr) a b b.length) i = atE gr a i * atE gr b i % gr.p := by
  unfold atE
  rw [smL_len, hl]
  exact atS_sum hg i hl _ (Nat.le_refl _)
theorem shrB_sum {gr : GroupD} (hG : shG gr = true) {a b : List Int} (hl : a.length = b.length) {i s t : Int} (h1 : shrB gr a i s = true) (h2 : shrB gr b i t = true) : shrB gr (smL (mulF gr) a b b.length) i (addF gr s t) = true := by
  have hg := shG_ok hG
  have hgen : elB gr gr.g = true := elT_gen (by unfold shG at hG; rw [Bool.and_eq_true] at hG; exact hG.2)
  unfold shrB at *
  rw [beq_iff_eq] at *
  rw [atE_sum hg i hl, ← h1, ← h2]
  unfold addF
  rw [powE_emod, powE_add hg hgen]
theorem bad_nil (gr : GroupD) (d : DealingD) : ∀ n, bdL gr d n = [] ↔ ∀ k, k < n → shrB gr d.c ((k : Int) + 1) (nth d.s k) = true := by
  intro n
  induction n with
  | zero => simp [bdL]
  | succ n ih =>
    unfold bdL
    by_cases h : shrB gr d.c ((n : Int) + 1) (nth d.s n) = true
    · rw [if_pos h, ih]
      constructor
      · intro h2 k hk
        rcases Nat.lt_or_ge k n with h3 | h3
        · exact h2 k h3
        · obtain rfl : k = n := by omega
          exact h
      · exact fun h2 k hk => h2 k (by omega)
    · rw [if_neg h]
      constructor
      · intro h2; simp at h2
      · exact fun h2 => absurd (h2 n (by omega)) h
theorem suX_bad {gr : GroupD} {f a d : DealingD} (hG : shG gr = true) (h1 : SameD gr f a) (h2 : SameD gr f d) (ha : badE gr a = []) (hd : badE gr d = []) : badE gr (suX gr a d) = [] := by
  have hlc : a.c.length = d.c.length := by rw [h1.lc, h2.lc]
  have hls : a.s.length = d.s.length := by rw [h1.ls, h2.ls]
  unfold badE at *
  rw [bad_nil] at *
  intro k hk
  have hk' : k < a.s.length := by rw [show (suX gr a d).s.length = a.s.length from smL_len _ _ _ _] at hk; exact hk
  show shrB gr (smL (mulF gr) a.c d.c d.c.length) _ (nth (smL (addF gr) a.s d.s d.s.length) k) = true
  rw [smL_all_nth _ hls (by omega)]
  exact shrB_sum hG hlc (ha k hk') (hd k (by omega))
theorem smF_bad {gr : GroupD} {l : List DealingD} (hG : shG gr = true) (hl : ∀ d ∈ l, SameD gr (hdD l) d) (hb : ∀ d ∈ l, badE gr d = []) : ∀ j, j < l.length → SameD gr (hdD l) (smF gr l j) ∧ badE gr (smF gr l j) = [] := by
  intro j
  induction j with
  | zero => intro h0; rw [show smF gr l 0 = hdD l from rfl, hdD_eq h0]; exact ⟨by have := hl _ (List.getElem_mem h0); rwa [hdD_eq h0] at this, hb _ (List.getElem_mem h0)⟩
  | succ j ih =>
    intro hj
    obtain ⟨i1, i2⟩ := ih (by omega)
    have hm := hl _ (List.getElem_mem hj)
    have hn := hb _ (List.getElem_mem hj)
    rw [show smF gr l (j + 1) = suX gr (smF gr l j) (atD l (j + 1)) from rfl, atD_eq hj]
    exact ⟨SameD.sum (shG_ok hG) i1 hm, suX_bad hG i1 hm i2 hn⟩
theorem deB_same {gr : GroupD} {f d : DealingD} (h : deB gr f = true) (hs : SameD gr f d) : deB gr d = true := by
  unfold deB lnB cmsB at *
  simp only [Bool.and_eq_true, decide_eq_true_iff, List.all_eq_true] at *
  rw [hs.lc, hs.ls]
  exact ⟨⟨h.1.1, hs.ec⟩, h.2.1, hs.es⟩
theorem shc_sum {gr : GroupD} {l : List DealingD} (h : sdB gr l = true) : vdB gr (suR gr l) = true ∧ ((∀ d ∈ l, vdB gr d = true ∧ bsR gr d = []) → bsR gr (suR gr l) = []) := by
  have h' := h
  unfold sdB at h'
  rw [Bool.and_eq_true] at h'
  obtain ⟨hG, hA⟩ := h'
  obtain ⟨⟨n1, n2⟩, hd⟩ := alB_parts hA
  have hS : suR gr l = smF gr l (l.length - 1) := by unfold suR smD; rw [if_pos h]
  have hsame := smF_same (shG_ok hG) hA (l.length - 1) (by omega)
  have hhd : deB gr (hdD l) = true := by rw [hdD_eq (by omega)]; exact (hd _ (List.getElem_mem _)).1
  have hv : vdB gr (suR gr l) = true := by
    unfold vdB; rw [hG, Bool.true_and, hS]; exact deB_same hhd hsame
  refine ⟨hv, fun hall => ?_⟩
  unfold bsR
  rw [if_pos hv, hS]
  refine (smF_bad hG (fun d hd' => (hd d hd').2) (fun d hd' => ?_) (l.length - 1) (by omega)).2
  obtain ⟨q1, q2⟩ := hall d hd'
  unfold bsR at q2
  rwa [if_pos q1] at q2
theorem shc_right {gr : GroupD} {cs : List Int} {i s : Int} (h : ckB gr cs i s = true) : caB' gr cs i = true ∧ exB gr gr.g s = true ∧ ckR gr cs i s = (caR' gr cs i == exR gr gr.g s) := by
  have h' := h
  unfold ckB at h'
  simp only [Bool.and_eq_true, decide_eq_true_iff] at h'
  obtain ⟨hG, hc, ⟨hi1, hi2⟩, hs⟩ := h'
  have hgood : goodG gr = true := by unfold shG at hG; rw [Bool.and_eq_true] at hG; exact hG.2
  have hca : caB' gr cs i = true := by unfold caB'; rw [hG, hc, Bool.true_and, Bool.true_and, decide_eq_true_iff]; omega
  have hex : exB gr gr.g s = true := by unfold exB; rw [hgood, elT_gen hgood, hs]; rfl
  refine ⟨hca, hex, ?_⟩
  unfold ckR caR' exR
  rw [h, if_pos hca, if_pos hex, Bool.true_and]
  unfold shrB
  exact Bool.beq_comm
end Go.Proofs.Ytegomgnlhcbmfaa

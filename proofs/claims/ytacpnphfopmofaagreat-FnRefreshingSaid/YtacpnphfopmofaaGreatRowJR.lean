/- Masked shares: SumShares, MaskedShares (printed by gen_rf4.py). -/
import Derived.Test.YtacpnphfopmofaaGreatFindDQR
import Derived.Test.YtacpnphfopmofaaGreatMixR
import Derived.Test.YtacpnphfopmofaaGreatRowIR
namespace Go.Proofs.YtacpnphfopmofaaGreat
open Go.RowKit
set_option linter.unusedSimpArgs false
set_option linter.unusedVariables false

noncomputable def ssR (gr : GroupD) (k : DealingD) (l : List DealingD) : DealingD := if ssB gr k l = true then mkD gr k l else ⟨[], []⟩
noncomputable def mkR (gr : GroupD) (k : DealingD) (i : Int) (l : List DealingD) : DealingD := if mkB gr k i l = true then mkD gr k l else ⟨[], []⟩
theorem ze_any (gr : GroupD) (i : Int) (l : List DealingD) : (l.any fun e => !zeB gr e i) = !(l.all fun e => zeB gr e i) := by
  induction l with
  | nil => rfl
  | cons a l ih => simp only [List.any_cons, List.all_cons, ih, Bool.not_and]
theorem ss_al {gr : GroupD} {k : DealingD} {l : List DealingD} (h1 : vdB gr k = true) (h2 : dsB gr l = true) (h3 : (l.all fun d => smB d k) = true) (hn : l.length ≤ 6) : alB gr (k :: l) = true := by
  unfold dsB at h2
  rw [Bool.and_eq_true] at h2
  exact kl_al (vdB_p h1).2 (fun d hd => ⟨List.all_eq_true.1 h2.2 d hd, List.all_eq_true.1 h3 d hd⟩) hn
set_option maxHeartbeats 2000000 in
theorem impl_SumShares1 (v : Value) (d : DealingD) (b : Nat) (kv0 kv1 : Value) (k : DealingD) (w : World) (h : (kS rDealing).rd w v d) (hx0 : w.cell? ⟨b, 0, none⟩ = some kv0) (hx1 : w.cell? ⟨b, 1, none⟩ = some kv1) (hk : DlR w (.agg #[kv0, kv1]) k) :
    Calls Tryz.prog 86 #[v, .pointer (some ⟨b, 0, none⟩)] w fun e w' => e = .returned (.bool (!smB d k)) ∧ Below w.heap.size w w' := by
  obtain ⟨p0, m0, k0, p1, m1, k1, rfl, g0, g1⟩ := rdDealing.1 h
  obtain ⟨q0, q1, e, f0, f1⟩ := hk
  have e := Value.agg.inj e
  have e1 := congrArg Array.toList e
  simp only [List.cons.injEq, and_true] at e1
  obtain ⟨rfl, rfl⟩ := e1
  clear e
  obtain ⟨r0, s0, t0, rfl⟩ := f0.shape
  obtain ⟨r1, s1, t1, rfl⟩ := f1.shape
  obtain ⟨W, hW⟩ : ∃ W, W = w.alloc (.cells #[.slice p0 m0 k0, .slice p1 m1 k1] 61) := ⟨_, rfl⟩
  have HB : Hid (Below w.heap.size w W) := by unfold Hid; rw [hW]; (repeat (first | exact Below.refl _ _ | assumption | refine Below.drew ?_ | refine Below.alloc ?_ (by first | (simp; done) | (simp; omega)) _ | refine Below.setCell ?_ (by first | (simp; done) | (simp; omega)) _))
  have HDl : Hid (DlR W (.agg #[.slice p0 m0 k0, .slice p1 m1 k1]) d) := (DlR.mk g0 g1 : DlR w _ d).below HB.out
  have HKl : Hid (DlR W (.agg #[.slice r0 s0 t0, .slice r1 s1 t1]) k) := (DlR.mk f0 f1 : DlR w _ k).below HB.out
  have hlt := World.block_lt_of_cell? w _ hx0
  clear g0 g1 f0 f1 h
  obtain ⟨q, hq⟩ : ∃ q, smB d k = q := ⟨_, rfl⟩
  have HQ := Lib.hid hq
  rw [hq]; clear hq
  go_enter Tryz.func86, Tryz.ntmps86
  go_wp2_with fail
  rw [← hW]
  clear hW hx0 hx1 hlt
  refine (impl_sameShape _ _ d k _ HDl.out HKl.out).mono ?_
  rintro e u ⟨rfl, hb⟩
  have HBU := Lib.hid (HB.out.trans (hb.mono HB.out.size))
  clear hb
  rw [HQ.out]
  cases q with
  | false =>
    go_wp2_with fail
    go_ret
    exact ⟨rfl, HBU.out⟩
  | true =>
    go_wp2_with fail
    go_ret
    exact ⟨rfl, HBU.out⟩
set_option maxHeartbeats 2000000 in
theorem impl_MaskedShares1 (gr : GroupD) (i : Int) (v : Value) (d : DealingD) (b c : Nat) (w : World) (hg : OkG gr) (hi : 0 ≤ i ∧ i ≤ 1000) (hd : deB gr d = true) (h : (kS rDealing).rd w v d) (hx0 : w.cell? ⟨b, 0, none⟩ = some (.int .i64 gr.p)) (hx1 : w.cell? ⟨b, 1, none⟩ = some (.int .i64 gr.q)) (hx2 : w.cell? ⟨b, 2, none⟩ = some (.int .i64 gr.g)) (hy : w.cell? ⟨c, 0, none⟩ = some (.int .i64 i)) :
    Calls Tryz.prog 42 #[v, .pointer (some ⟨b, 0, none⟩), .pointer (some ⟨c, 0, none⟩)] w fun e w' => e = .returned (.bool (!zeB gr d i)) ∧ Below w.heap.size w w' := by
  have HG := Lib.hid hg
  have HI := Lib.hid hi
  have HD := Lib.hid hd
  clear hg hi hd
  obtain ⟨p0, m0, k0, p1, m1, k1, rfl, g0, g1⟩ := rdDealing.1 h
  obtain ⟨W, hW⟩ : ∃ W, W = w.alloc (.cells #[.slice p0 m0 k0, .slice p1 m1 k1] 61) := ⟨_, rfl⟩
  have HB : Hid (Below w.heap.size w W) := by unfold Hid; rw [hW]; (repeat (first | exact Below.refl _ _ | assumption | refine Below.drew ?_ | refine Below.alloc ?_ (by first | (simp; done) | (simp; omega)) _ | refine Below.setCell ?_ (by first | (simp; done) | (simp; omega)) _))
  have HDl : Hid (DlR W (.agg #[.slice p0 m0 k0, .slice p1 m1 k1]) d) := (DlR.mk g0 g1 : DlR w _ d).below HB.out
  have hlt := World.block_lt_of_cell? w _ hx0
  have hlt2 := World.block_lt_of_cell? w _ hy
  clear g0 g1 h
  obtain ⟨q, hq⟩ : ∃ q, zeB gr d i = q := ⟨_, rfl⟩
  have HQ := Lib.hid hq
  rw [hq]; clear hq
  go_enter Tryz.func42, Tryz.ntmps42
  go_wp2_with fail
  rw [← hW]
  clear hW hx0 hx1 hx2 hy hlt hlt2
  refine (impl_isZero gr _ d i _ HG.out HDl.out HD.out HI.out).mono ?_
  rintro e u ⟨rfl, hb⟩
  have HBU := Lib.hid (HB.out.trans (hb.mono HB.out.size))
  clear hb
  rw [HQ.out]
  cases q with
  | false =>
    go_wp2_with fail
    go_ret
    exact ⟨rfl, HBU.out⟩
  | true =>
    go_wp2_with fail
    go_ret
    exact ⟨rfl, HBU.out⟩
set_option maxRecDepth 100000 in
set_option maxHeartbeats 2000000 in
theorem impl_SumShares (gr : GroupD) (kv lv : Value) (k : DealingD) (l : List DealingD) (w : World) (hk : DlR w kv k) (hl : RdR rDealing w lv l) (hln : l.length ≤ 6) :
    Calls Tryz.prog 39 #[.agg #[.int .i64 gr.p, .int .i64 gr.q, .int .i64 gr.g], kv, lv] w fun e w' => RetDB e w' w.heap.size (ssB gr k l) (ssR gr k l) ∧ Below w.heap.size w w' := by
  have HLN := Lib.hid hln
  clear hln
  obtain ⟨xcv, xsv, rfl, hxc, hxs⟩ := hk
  obtain ⟨xca, xcn, xcc, rfl⟩ := hxc.shape
  have Exc := Lib.hid hxc.len
  have Kxc := Lib.hid hxc.capMax
  have Hxc := Lib.hid hxc
  clear hxc
  obtain ⟨xsa, xsn, xsc, rfl⟩ := hxs.shape
  have Exs := Lib.hid hxs.len
  have Kxs := Lib.hid hxs.capMax
  have Hxs := Lib.hid hxs
  clear hxs
  obtain ⟨lva, lvn, lvc, rfl⟩ := hl.shape
  have Elv := Lib.hid hl.len
  have Klv := Lib.hid hl.capMax
  have Hlv := Lib.hid hl
  clear hl
  obtain ⟨W, hW⟩ : ∃ W, W = ((w.alloc (.cells #[.int .i64 gr.p, .int .i64 gr.q, .int .i64 gr.g] 24)).alloc (.cells #[(.slice xca xcn xcc), (.slice xsa xsn xsc)] 27)).alloc (.cells #[(.slice none 0 0), (.slice none 0 0)] 27) := ⟨_, rfl⟩
  have HB : Hid (Below w.heap.size w W) := by unfold Hid; rw [hW]; (repeat (first | exact Below.refl _ _ | assumption | refine Below.drew ?_ | refine Below.alloc ?_ (by first | (simp; done) | (simp; omega)) _ | refine Below.setCell ?_ (by first | (simp; done) | (simp; omega)) _))
  have c0_0 : W.cell? ⟨w.heap.size, 0, none⟩ = some (.int .i64 gr.p) := by rw [hW]; simp [go_sem]
  have c0_1 : W.cell? ⟨w.heap.size, 1, none⟩ = some (.int .i64 gr.q) := by rw [hW]; simp [go_sem]
  have c0_2 : W.cell? ⟨w.heap.size, 2, none⟩ = some (.int .i64 gr.g) := by rw [hW]; simp [go_sem]
  have c1_0 : W.cell? ⟨w.heap.size + 1, 0, none⟩ = some ((.slice xca xcn xcc)) := by rw [hW]; simp [go_sem]
  have c1_1 : W.cell? ⟨w.heap.size + 1, 1, none⟩ = some ((.slice xsa xsn xsc)) := by rw [hW]; simp [go_sem]
  have HR2 : Hid (BoxN W (w.heap.size + 1 + 1) 27 [(.slice none 0 0), (.slice none 0 0)]) := by unfold Hid; rw [hW]; have h := (BoxN.new ((w.alloc (.cells #[.int .i64 gr.p, .int .i64 gr.q, .int .i64 gr.g] 24)).alloc (.cells #[(.slice xca xcn xcc), (.slice xsa xsn xsc)] 27)) [(.slice none 0 0), (.slice none 0 0)] 27); simpa using h
  have HSW : Hid (W.heap.size = w.heap.size + 3) := by unfold Hid; rw [hW]; simp
  have lr2 : w.heap.size + 1 + 1 < W.heap.size := by have := HSW.out; omega
  go_enter Tryz.func39, Tryz.ntmps39
  go_wp2_with fail
  rw [← hW]
  have hse : w.heap.size + 1 + 1 + 1 = W.heap.size := by have := HSW.out; omega
  (try rw [hse])
  clear hse
  clear hW
  have hc : Below W.heap.size W W := Below.refl _ _
  have HCC : Hid (∀ u, Below W.heap.size W u → u.cell? ⟨w.heap.size, 0, none⟩ = some (.int .i64 gr.p) ∧ u.cell? ⟨w.heap.size, 1, none⟩ = some (.int .i64 gr.q) ∧ u.cell? ⟨w.heap.size, 2, none⟩ = some (.int .i64 gr.g) ∧ u.cell? ⟨w.heap.size + 1, 0, none⟩ = some ((.slice xca xcn xcc)) ∧ u.cell? ⟨w.heap.size + 1, 1, none⟩ = some ((.slice xsa xsn xsc))) := fun u h => ⟨box_at c0_0 h, box_at c0_1 h, box_at c0_2 h, box_at c1_0 h, box_at c1_1 h⟩
  go_wp2_with fail
  refine (impl_hasKey gr _ k _ (DlR.mk (Hxc.out.below (HB.out.trans (hc.mono HB.out.size))) (Hxs.out.below (HB.out.trans (hc.mono HB.out.size))))).mono ?_
  rintro e u1 ⟨rfl, hq1⟩
  replace hc := Below.next hc hq1
  clear hq1 c0_0 c0_1 c0_2 c1_0 c1_1
  obtain ⟨c0_0, c0_1, c0_2, c1_0, c1_1⟩ := HCC.out _ hc
  cases hc1 : vdB gr k with
  | false =>
    have Hhc1 := Lib.hid hc1
    clear hc1
    have HRE2 := Lib.hid (HR2.out.below hc)
    clear HR2
    have HBE := Lib.hid (HB.out.trans (hc.mono HB.out.size))
    have r2_0 := HRE2.out.cell (i := 0) rfl
    have r2_1 := HRE2.out.cell (i := 1) rfl
    have fr2 := fun j => HRE2.out.frozen j
    go_wp2_with fail
    have HRF := Lib.hid ((HRE2.out.set 0 ((.slice none 0 0))).set 1 ((.slice none 0 0)))
    have HBF := Lib.hid ((HBE.out.setCell (p := ⟨w.heap.size + 1 + 1, 0, none⟩) (by show w.heap.size ≤ w.heap.size + 1 + 1; omega) ((.slice none 0 0))).setCell (p := ⟨w.heap.size + 1 + 1, 1, none⟩) (by show w.heap.size ≤ w.heap.size + 1 + 1; omega) ((.slice none 0 0)))
    clear r2_0 r2_1 fr2
    have r2_0 := HRF.out.cell (i := 0) rfl
    have r2_1 := HRF.out.cell (i := 1) rfl
    try (go_wp2_with fail)
    have HVB : Hid (ssB gr k l = false) := by unfold Hid; simp only [ssB, rkB, Hhc1.out, Bool.true_and, Bool.false_and, Bool.and_true, Bool.and_false]
    have HPR : Hid (ssR gr k l = ⟨[], []⟩) := by unfold Hid ssR; rw [if_neg (by rw [HVB.out]; simp)]
    refine bodyPost_ret (v := .tuple #[.agg #[(.slice none 0 0), (.slice none 0 0)], .bool false]) (by simp [results, Tryz.results39, go_sem, r2_0, r2_1]) rfl ⟨(by rw [HVB.out, HPR.out]; exact RetDB.mk (OwnI.nil _ _) (OwnI.nil _ _)), HBF.out⟩
  | true =>
    have HVK := Lib.hid hc1
    have HG := Lib.hid (vdB_parts hc1).1
    have HDK := Lib.hid (vdB_parts hc1).2
    have Hhc1 := Lib.hid hc1
    clear hc1
    go_wp2_with fail
    refine (impl_hasDealings gr _ l _ HG.out (Hlv.out.below (HB.out.trans (hc.mono HB.out.size)))).mono ?_
    rintro e u2 ⟨rfl, hq2⟩
    replace hc := Below.next hc hq2
    clear hq2 c0_0 c0_1 c0_2 c1_0 c1_1
    obtain ⟨c0_0, c0_1, c0_2, c1_0, c1_1⟩ := HCC.out _ hc
    cases hc2 : dsB gr l with
    | false =>
      have Hhc2 := Lib.hid hc2
      clear hc2
      have HRE2 := Lib.hid (HR2.out.below hc)
      clear HR2
      have HBE := Lib.hid (HB.out.trans (hc.mono HB.out.size))
      have r2_0 := HRE2.out.cell (i := 0) rfl
      have r2_1 := HRE2.out.cell (i := 1) rfl
      have fr2 := fun j => HRE2.out.frozen j
      go_wp2_with fail
      have HRF := Lib.hid ((HRE2.out.set 0 ((.slice none 0 0))).set 1 ((.slice none 0 0)))
      have HBF := Lib.hid ((HBE.out.setCell (p := ⟨w.heap.size + 1 + 1, 0, none⟩) (by show w.heap.size ≤ w.heap.size + 1 + 1; omega) ((.slice none 0 0))).setCell (p := ⟨w.heap.size + 1 + 1, 1, none⟩) (by show w.heap.size ≤ w.heap.size + 1 + 1; omega) ((.slice none 0 0)))
      clear r2_0 r2_1 fr2
      have r2_0 := HRF.out.cell (i := 0) rfl
      have r2_1 := HRF.out.cell (i := 1) rfl
      try (go_wp2_with fail)
      have HVB : Hid (ssB gr k l = false) := by unfold Hid; simp only [ssB, rkB, Hhc1.out, Hhc2.out, Bool.true_and, Bool.false_and, Bool.and_true, Bool.and_false]
      have HPR : Hid (ssR gr k l = ⟨[], []⟩) := by unfold Hid ssR; rw [if_neg (by rw [HVB.out]; simp)]
      refine bodyPost_ret (v := .tuple #[.agg #[(.slice none 0 0), (.slice none 0 0)], .bool false]) (by simp [results, Tryz.results39, go_sem, r2_0, r2_1]) rfl ⟨(by rw [HVB.out, HPR.out]; exact RetDB.mk (OwnI.nil _ _) (OwnI.nil _ _)), HBF.out⟩
    | true =>
      have HDS := Lib.hid hc2
      have HDEC : Hid (DecidesS rDealing u2 86 #[.pointer (some ⟨w.heap.size + 1, 0, none⟩)] (fun d => !smB d k)) := ⟨Tryz.call86, fun v d wr hx hb => impl_SumShares1 v d _ _ _ k wr hx (box_at c1_0 hb) (box_at c1_1 hb) ((DlR.mk (Hxc.out.below (HB.out.trans (hc.mono HB.out.size))) (Hxs.out.below (HB.out.trans (hc.mono HB.out.size))) : DlR u2 _ k).below hb)⟩
      have Hhc2 := Lib.hid hc2
      clear hc2
      go_wp2_with fail
      refine (slices_ContainsFuncDealing _ l _ _ (fun d => !smB d k) _ (Hlv.out.below (HB.out.trans (hc.mono HB.out.size))) HDEC.out).mono ?_
      rintro e u3 ⟨rfl, hq3⟩
      replace hc := Below.next hc hq3
      clear hq3 c0_0 c0_1 c0_2 c1_0 c1_1
      obtain ⟨c0_0, c0_1, c0_2, c1_0, c1_1⟩ := HCC.out _ hc
      cases hc3 : (l.any fun d => !smB d k) with
      | false =>
        have HSA : Hid ((l.all fun d => smB d k) = true) := by have q := hc3; rw [sm_any, Bool.not_eq_false'] at q; exact q
        have HAL := Lib.hid (ss_al HVK.out HDS.out HSA.out HLN.out)
        have Hhc3 := Lib.hid hc3
        clear hc3
        go_wp2_with fail
        refine (impl_plus gr _ _ k l _ HG.out (DlR.mk (Hxc.out.below (HB.out.trans (hc.mono HB.out.size))) (Hxs.out.below (HB.out.trans (hc.mono HB.out.size)))) (Hlv.out.below (HB.out.trans (hc.mono HB.out.size))) HAL.out).mono ?_
        rintro e u4 ⟨⟨x0, x1, rfl, ho0, ho1⟩, hq4⟩
        have hszv := hc.size
        obtain ⟨xa0, xc0, rfl⟩ := OwnI.shapeN (n := (smD gr (k :: l)).c.length) ho0 rfl
        obtain ⟨xa1, xc1, rfl⟩ := OwnI.shapeN (n := (smD gr (k :: l)).s.length) ho1 rfl
        replace hc := Below.next hc hq4
        clear hq4 c0_0 c0_1 c0_2 c1_0 c1_1
        obtain ⟨c0_0, c0_1, c0_2, c1_0, c1_1⟩ := HCC.out _ hc
        have HRE2 := Lib.hid (HR2.out.below hc)
        clear HR2
        have HBE := Lib.hid (HB.out.trans (hc.mono HB.out.size))
        have r2_0 := HRE2.out.cell (i := 0) rfl
        have r2_1 := HRE2.out.cell (i := 1) rfl
        have fr2 := fun j => HRE2.out.frozen j
        go_wp2_with fail
        have HRF := Lib.hid ((HRE2.out.set 0 ((.slice xa0 (smD gr (k :: l)).c.length xc0))).set 1 ((.slice xa1 (smD gr (k :: l)).s.length xc1)))
        have HBF := Lib.hid ((HBE.out.setCell (p := ⟨w.heap.size + 1 + 1, 0, none⟩) (by show w.heap.size ≤ w.heap.size + 1 + 1; omega) ((.slice xa0 (smD gr (k :: l)).c.length xc0))).setCell (p := ⟨w.heap.size + 1 + 1, 1, none⟩) (by show w.heap.size ≤ w.heap.size + 1 + 1; omega) ((.slice xa1 (smD gr (k :: l)).s.length xc1)))
        clear r2_0 r2_1 fr2
        have r2_0 := HRF.out.cell (i := 0) rfl
        have r2_1 := HRF.out.cell (i := 1) rfl
        try (go_wp2_with fail)
        have HVB : Hid (ssB gr k l = true) := by unfold Hid; simp only [ssB, rkB, Hhc1.out, Hhc2.out, HSA.out, Bool.true_and, Bool.false_and, Bool.and_true, Bool.and_false]
        have HPR : Hid (ssR gr k l = smD gr (k :: l)) := by unfold Hid ssR; rw [if_pos (by rw [HVB.out])]; rfl
        refine bodyPost_ret (v := .tuple #[.agg #[(.slice xa0 (smD gr (k :: l)).c.length xc0), (.slice xa1 (smD gr (k :: l)).s.length xc1)], .bool true]) (by simp [results, Tryz.results39, go_sem, r2_0, r2_1]) rfl ⟨(by rw [HVB.out, HPR.out]; exact RetDB.mk (((ho0.oth (b := w.heap.size + 1 + 1) (by omega) 0 ((.slice xa0 (smD gr (k :: l)).c.length xc0))).oth (b := w.heap.size + 1 + 1) (by omega) 1 ((.slice xa1 (smD gr (k :: l)).s.length xc1))).mono (by omega)) (((ho1.oth (b := w.heap.size + 1 + 1) (by omega) 0 ((.slice xa0 (smD gr (k :: l)).c.length xc0))).oth (b := w.heap.size + 1 + 1) (by omega) 1 ((.slice xa1 (smD gr (k :: l)).s.length xc1))).mono (by omega))), HBF.out⟩
      | true =>
        have HSA : Hid ((l.all fun d => smB d k) = false) := by have q := hc3; rw [sm_any, Bool.not_eq_true'] at q; exact q
        have Hhc3 := Lib.hid hc3
        clear hc3
        have HRE2 := Lib.hid (HR2.out.below hc)
        clear HR2
        have HBE := Lib.hid (HB.out.trans (hc.mono HB.out.size))
        have r2_0 := HRE2.out.cell (i := 0) rfl
        have r2_1 := HRE2.out.cell (i := 1) rfl
        have fr2 := fun j => HRE2.out.frozen j
        go_wp2_with fail
        have HRF := Lib.hid ((HRE2.out.set 0 ((.slice none 0 0))).set 1 ((.slice none 0 0)))
        have HBF := Lib.hid ((HBE.out.setCell (p := ⟨w.heap.size + 1 + 1, 0, none⟩) (by show w.heap.size ≤ w.heap.size + 1 + 1; omega) ((.slice none 0 0))).setCell (p := ⟨w.heap.size + 1 + 1, 1, none⟩) (by show w.heap.size ≤ w.heap.size + 1 + 1; omega) ((.slice none 0 0)))
        clear r2_0 r2_1 fr2
        have r2_0 := HRF.out.cell (i := 0) rfl
        have r2_1 := HRF.out.cell (i := 1) rfl
        try (go_wp2_with fail)
        have HVB : Hid (ssB gr k l = false) := by unfold Hid; simp only [ssB, rkB, Hhc1.out, Hhc2.out, HSA.out, Bool.true_and, Bool.false_and, Bool.and_true, Bool.and_false]
        have HPR : Hid (ssR gr k l = ⟨[], []⟩) := by unfold Hid ssR; rw [if_neg (by rw [HVB.out]; simp)]
        refine bodyPost_ret (v := .tuple #[.agg #[(.slice none 0 0), (.slice none 0 0)], .bool false]) (by simp [results, Tryz.results39, go_sem, r2_0, r2_1]) rfl ⟨(by rw [HVB.out, HPR.out]; exact RetDB.mk (OwnI.nil _ _) (OwnI.nil _ _)), HBF.out⟩
end Go.Proofs.YtacpnphfopmofaaGreat
namespace Go.Proofs.YtacpnphfopmofaaGreat
open Go.RowKit
set_option linter.unusedSimpArgs false
set_option linter.unusedVariables false

theorem mk_no {gr : GroupD} {k : DealingD} {i : Int} {l : List DealingD} (h : mkB gr k i l = false) : mkR gr k i l = ⟨[], []⟩ := by unfold mkR; rw [if_neg (by rw [h]; simp)]
theorem mk_yes {gr : GroupD} {k : DealingD} {i : Int} {l : List DealingD} (h : mkB gr k i l = true) : mkR gr k i l = mkD gr k l := by unfold mkR; rw [if_pos h]
set_option maxRecDepth 100000 in
set_option maxHeartbeats 4000000 in
theorem impl_MaskedShares (gr : GroupD) (kv lv : Value) (k : DealingD) (i : Int) (l : List DealingD) (w : World) (hk : DlR w kv k) (hl : RdR rDealing w lv l) (hln : l.length ≤ 6) (hi : I64 i) :
    Calls Tryz.prog 9 #[.agg #[.int .i64 gr.p, .int .i64 gr.q, .int .i64 gr.g], kv, .int .i64 i, lv] w fun e w' => RetDB e w' w.heap.size (mkB gr k i l) (mkR gr k i l) ∧ Below w.heap.size w w' := by
  have HLN := Lib.hid hln
  have HII := Lib.hid hi
  clear hln hi
  obtain ⟨xcv, xsv, rfl, hxc, hxs⟩ := hk
  obtain ⟨xca, xcn, xcc, rfl⟩ := hxc.shape
  obtain ⟨xsa, xsn, xsc, rfl⟩ := hxs.shape
  obtain ⟨la, ln, lc, rfl⟩ := hl.shape
  have Hxc := Lib.hid hxc
  have Hxs := Lib.hid hxs
  have HL := Lib.hid hl
  clear hxc hxs hl
  obtain ⟨W, hW⟩ : ∃ W, W = (((w.alloc (.cells #[.int .i64 gr.p, .int .i64 gr.q, .int .i64 gr.g] 24)).alloc (.cells #[.slice xca xcn xcc, .slice xsa xsn xsc] 27)).alloc (.cells #[.int .i64 i] 3)).alloc (.cells #[.slice none 0 0, .slice none 0 0] 27) := ⟨_, rfl⟩
  have HB : Hid (Below w.heap.size w W) := by unfold Hid; rw [hW]; (repeat (first | exact Below.refl _ _ | assumption | refine Below.drew ?_ | refine Below.alloc ?_ (by first | (simp; done) | (simp; omega)) _ | refine Below.setCell ?_ (by first | (simp; done) | (simp; omega)) _))
  have HBG : Hid (BoxN W w.heap.size 24 [.int .i64 gr.p, .int .i64 gr.q, .int .i64 gr.g]) := by unfold Hid; rw [hW]; have h := (((BoxN.new w [.int .i64 gr.p, .int .i64 gr.q, .int .i64 gr.g] 24).alloc (.cells #[.slice xca xcn xcc, .slice xsa xsn xsc] 27)).alloc (.cells #[.int .i64 i] 3)).alloc (.cells #[.slice none 0 0, .slice none 0 0] 27); simpa using h
  have HBK : Hid (BoxN W (w.heap.size + 1) 27 [.slice xca xcn xcc, .slice xsa xsn xsc]) := by unfold Hid; rw [hW]; have h := ((BoxN.new (w.alloc (.cells #[.int .i64 gr.p, .int .i64 gr.q, .int .i64 gr.g] 24)) [.slice xca xcn xcc, .slice xsa xsn xsc] 27).alloc (.cells #[.int .i64 i] 3)).alloc (.cells #[.slice none 0 0, .slice none 0 0] 27); simpa using h
  have HBI : Hid (BoxN W (w.heap.size + 1 + 1) 3 [.int .i64 i]) := by unfold Hid; rw [hW]; have h := (BoxN.new ((w.alloc (.cells #[.int .i64 gr.p, .int .i64 gr.q, .int .i64 gr.g] 24)).alloc (.cells #[.slice xca xcn xcc, .slice xsa xsn xsc] 27)) [.int .i64 i] 3).alloc (.cells #[.slice none 0 0, .slice none 0 0] 27); simpa using h
  have HRX : Hid (BoxN W (w.heap.size + 1 + 1 + 1) 27 [.slice none 0 0, .slice none 0 0]) := by unfold Hid; rw [hW]; have h := BoxN.new (((w.alloc (.cells #[.int .i64 gr.p, .int .i64 gr.q, .int .i64 gr.g] 24)).alloc (.cells #[.slice xca xcn xcc, .slice xsa xsn xsc] 27)).alloc (.cells #[.int .i64 i] 3)) [.slice none 0 0, .slice none 0 0] 27; simpa using h
  have HSW : Hid (W.heap.size = w.heap.size + 4) := by unfold Hid; rw [hW]; simp
  have hsw := HSW.out
  have HKW : Hid (DlR W (.agg #[.slice xca xcn xcc, .slice xsa xsn xsc]) k) := (DlR.mk Hxc.out Hxs.out : DlR w _ k).below HB.out
  have HLW : Hid (RdR rDealing W (.slice la ln lc) l) := HL.out.below HB.out
  clear Hxc Hxs HL
  have c0 := HBG.out.cell (i := 0) rfl
  have c1 := HBG.out.cell (i := 1) rfl
  have c2 := HBG.out.cell (i := 2) rfl
  have d0 := HBK.out.cell (i := 0) rfl
  have d1 := HBK.out.cell (i := 1) rfl
  have i0 := HBI.out.cell (i := 0) rfl
  go_enter Tryz.func9, Tryz.ntmps9
  go_wp2_with fail
  rw [← hW]
  clear hW
  (try (go_wp2_with fail))
  refine (impl_SumShares gr _ _ k l _ HKW.out HLW.out HLN.out).mono ?_
  rintro e u1 ⟨⟨x, y, rfl, hox, hoy⟩, hb⟩
  clear c0 c1 c2 d0 d1 i0
  have HB1 : Hid (Below W.heap.size W u1) := hb
  have hs1 := hb.size
  clear hb
  obtain ⟨ax, cx, rfl⟩ := OwnI.shapeN (n := (ssR gr k l).c.length) hox rfl
  obtain ⟨ay, cy, rfl⟩ := OwnI.shapeN (n := (ssR gr k l).s.length) hoy rfl
  obtain ⟨V, hV⟩ : ∃ V, V = u1.alloc (.cells #[.slice ax (ssR gr k l).c.length cx, .slice ay (ssR gr k l).s.length cy] 27) := ⟨_, rfl⟩
  have hbV : Below u1.heap.size u1 V := by rw [hV]; exact (Below.refl _ _).alloc (Nat.le_refl _) _
  have HBT : Hid (BoxN V u1.heap.size 27 [.slice ax (ssR gr k l).c.length cx, .slice ay (ssR gr k l).s.length cy]) := by unfold Hid; rw [hV]; exact BoxN.new u1 _ _
  have HBV : Hid (Below W.heap.size W V) := Below.next HB1.out hbV
  have HOX := Lib.hid (hox.below hbV)
  have HOY := Lib.hid (hoy.below hbV)
  have hs2 := hbV.size
  clear hox hoy
  have hltv : u1.heap.size < V.heap.size := HBT.out.lt
  cases hq : ssB gr k l with
  | false =>
    have HMB : Hid (mkB gr k i l = false) := by unfold Hid mkB; rw [hq]; rfl
    clear hq
    have HRu := Lib.hid (HRX.out.below HB1.out)
    have r0 := HRu.out.cell (i := 0) rfl
    have r1 := HRu.out.cell (i := 1) rfl
    have fr := fun j => HRu.out.frozen j
    have lru := HRu.out.lt
    go_wp2_with fail
    clear r0 r1 fr lru
    have HMR := Lib.hid (mk_no HMB.out)
    have HRF := Lib.hid (((HRu.out.set 0 (.slice none 0 0)).set 1 (.slice none 0 0)).alloc (.cells #[.slice ax (ssR gr k l).c.length cx, .slice ay (ssR gr k l).s.length cy] 27))
    have t0 := HRF.out.cell (i := 0) rfl
    have t1 := HRF.out.cell (i := 1) rfl
    try (go_wp2_with fail)
    refine bodyPost_ret (v := .tuple #[.agg #[.slice none 0 0, .slice none 0 0], .bool false]) (by simp [results, Tryz.results9, go_sem, t0, t1]) rfl ⟨by rw [HMB.out, HMR.out]; exact RetDB.mk (OwnI.nil _ _) (OwnI.nil _ _), (((HB.out.trans (HB1.out.mono HB.out.size)).setCell (p := ⟨w.heap.size + 1 + 1 + 1, 0, none⟩) (by show w.heap.size ≤ w.heap.size + 1 + 1 + 1; omega) _).setCell (p := ⟨w.heap.size + 1 + 1 + 1, 1, none⟩) (by show w.heap.size ≤ w.heap.size + 1 + 1 + 1; omega) _).alloc (by simp; omega) _⟩
  | true =>
    have HSS := Lib.hid hq
    clear hq
    have i0 := box_at (HBI.out.cell (i := 0) rfl) HB1.out
    have li := World.block_lt_of_cell? u1 _ i0
    go_wp2_with fail
    rw [← hV]
    clear hV li
    refine (impl_isTrustee i _).mono ?_
    rintro e u3 ⟨rfl, hb⟩
    have HB3 : Hid (Below W.heap.size W u3) := Below.next HBV.out hb
    replace HOX := Lib.hid (HOX.out.below hb)
    replace HOY := Lib.hid (HOY.out.below hb)
    replace HBT := Lib.hid (HBT.out.below hb)
    have hs3 := hb.size
    clear hb i0 hbV
    cases hqi : decide (1 ≤ i ∧ i ≤ 7) with
    | false =>
      have HMB : Hid (mkB gr k i l = false) := by unfold Hid mkB; rw [hqi, Bool.false_and, Bool.and_false]
      clear hqi
      have HMR := Lib.hid (mk_no HMB.out)
      have HR := Lib.hid (HRX.out.below HB3.out)
      have r0 := HR.out.cell (i := 0) rfl
      have r1 := HR.out.cell (i := 1) rfl
      have fr := fun j => HR.out.frozen j
      (try (go_wp2_with fail))
      clear r0 r1 fr
      have HRF := Lib.hid ((HR.out.set 0 (.slice none 0 0)).set 1 (.slice none 0 0))
      have t0 := HRF.out.cell (i := 0) rfl
      have t1 := HRF.out.cell (i := 1) rfl
      try (go_wp2_with fail)
      refine bodyPost_ret (v := .tuple #[.agg #[.slice none 0 0, .slice none 0 0], .bool false]) (by simp [results, Tryz.results9, go_sem, t0, t1]) rfl ⟨by rw [HMB.out, HMR.out]; exact RetDB.mk (OwnI.nil _ _) (OwnI.nil _ _), ((HB.out.trans (HB3.out.mono HB.out.size)).setCell (p := ⟨w.heap.size + 1 + 1 + 1, 0, none⟩) (by show w.heap.size ≤ w.heap.size + 1 + 1 + 1; omega) _).setCell (p := ⟨w.heap.size + 1 + 1 + 1, 1, none⟩) (by show w.heap.size ≤ w.heap.size + 1 + 1 + 1; omega) _⟩
    | true =>
      have HQI := Lib.hid hqi
      have hib := of_decide_eq_true hqi
      have HIB : Hid (0 ≤ i ∧ i ≤ 1000) := ⟨by omega, by omega⟩
      clear hqi
      have HRK : Hid (rkB gr k l = true) := by have h := HSS.out; unfold ssB at h; rw [Bool.and_eq_true] at h; exact h.1
      have HG := Lib.hid (shG_ok (rkB_parts HRK.out).1)
      have HDE := Lib.hid (rkB_parts HRK.out).2.2.2
      have c0 := Lib.hid (box_at (HBG.out.cell (i := 0) rfl) HB3.out)
      have c1 := Lib.hid (box_at (HBG.out.cell (i := 1) rfl) HB3.out)
      have c2 := Lib.hid (box_at (HBG.out.cell (i := 2) rfl) HB3.out)
      have ci := Lib.hid (box_at (HBI.out.cell (i := 0) rfl) HB3.out)
      have HDEC : Hid (DecidesQ rDealing (fun d => deB gr d = true) u3 42 #[.pointer (some ⟨w.heap.size, 0, none⟩), .pointer (some ⟨w.heap.size + 1 + 1, 0, none⟩)] (fun d => !zeB gr d i)) := ⟨Tryz.call42, fun v d wr hx hd hb => impl_MaskedShares1 gr i v d _ _ wr HG.out HIB.out hd hx (box_at c0.out hb) (box_at c1.out hb) (box_at c2.out hb) (box_at ci.out hb)⟩
      go_wp2_with fail
      refine (slices_ContainsFuncDealingQ (fun d => deB gr d = true) _ l _ _ (fun d => !zeB gr d i) _ (HLW.out.below HB3.out) HDEC.out HDE.out).mono ?_
      rintro e u4 ⟨rfl, hb⟩
      have HB4 : Hid (Below W.heap.size W u4) := Below.next HB3.out hb
      replace HOX := Lib.hid (HOX.out.below hb)
      replace HOY := Lib.hid (HOY.out.below hb)
      replace HBT := Lib.hid (HBT.out.below hb)
      have hs4 := hb.size
      clear hb c0 c1 c2 ci HDEC
      cases hqa : (l.any fun d => !zeB gr d i) with
      | true =>
        have HMB : Hid (mkB gr k i l = false) := by
          rw [ze_any, Bool.not_eq_true'] at hqa
          unfold Hid mkB; rw [hqa, Bool.and_false, Bool.and_false]
        clear hqa
        have HMR := Lib.hid (mk_no HMB.out)
        have HR := Lib.hid (HRX.out.below HB4.out)
        have r0 := HR.out.cell (i := 0) rfl
        have r1 := HR.out.cell (i := 1) rfl
        have fr := fun j => HR.out.frozen j
        (try (go_wp2_with fail))
        clear r0 r1 fr
        have HRF := Lib.hid ((HR.out.set 0 (.slice none 0 0)).set 1 (.slice none 0 0))
        have t0 := HRF.out.cell (i := 0) rfl
        have t1 := HRF.out.cell (i := 1) rfl
        try (go_wp2_with fail)
        refine bodyPost_ret (v := .tuple #[.agg #[.slice none 0 0, .slice none 0 0], .bool false]) (by simp [results, Tryz.results9, go_sem, t0, t1]) rfl ⟨by rw [HMB.out, HMR.out]; exact RetDB.mk (OwnI.nil _ _) (OwnI.nil _ _), ((HB.out.trans (HB4.out.mono HB.out.size)).setCell (p := ⟨w.heap.size + 1 + 1 + 1, 0, none⟩) (by show w.heap.size ≤ w.heap.size + 1 + 1 + 1; omega) _).setCell (p := ⟨w.heap.size + 1 + 1 + 1, 1, none⟩) (by show w.heap.size ≤ w.heap.size + 1 + 1 + 1; omega) _⟩
      | false =>
        have HMB : Hid (mkB gr k i l = true) := by
          rw [ze_any, Bool.not_eq_false'] at hqa
          unfold Hid mkB; rw [HSS.out, HQI.out, hqa]; rfl
        have HMR : Hid (mkR gr k i l = ssR gr k l) := by unfold Hid; rw [mk_yes HMB.out]; unfold ssR; rw [if_pos HSS.out]
        clear hqa
        have z0 := HBT.out.cell (i := 0) rfl
        have z1 := HBT.out.cell (i := 1) rfl
        have HR := Lib.hid (HRX.out.below HB4.out)
        have r0 := HR.out.cell (i := 0) rfl
        have r1 := HR.out.cell (i := 1) rfl
        have fr := fun j => HR.out.frozen j
        (try (go_wp2_with fail))
        clear r0 r1 fr
        have HRF := Lib.hid ((HR.out.set 0 (.slice ax (ssR gr k l).c.length cx)).set 1 (.slice ay (ssR gr k l).s.length cy))
        have t0 := HRF.out.cell (i := 0) rfl
        have t1 := HRF.out.cell (i := 1) rfl
        try (go_wp2_with fail)
        refine bodyPost_ret (v := .tuple #[.agg #[.slice ax (ssR gr k l).c.length cx, .slice ay (ssR gr k l).s.length cy], .bool true]) (by simp [results, Tryz.results9, go_sem, t0, t1]) rfl ⟨by rw [HMB.out, HMR.out]; exact RetDB.mk (((HOX.out.oth (b := w.heap.size + 1 + 1 + 1) (by omega) 0 (.slice ax (ssR gr k l).c.length cx)).oth (b := w.heap.size + 1 + 1 + 1) (by omega) 1 (.slice ay (ssR gr k l).s.length cy)).mono (by omega)) (((HOY.out.oth (b := w.heap.size + 1 + 1 + 1) (by omega) 0 (.slice ax (ssR gr k l).c.length cx)).oth (b := w.heap.size + 1 + 1 + 1) (by omega) 1 (.slice ay (ssR gr k l).s.length cy)).mono (by omega)), ((HB.out.trans (HB4.out.mono HB.out.size)).setCell (p := ⟨w.heap.size + 1 + 1 + 1, 0, none⟩) (by show w.heap.size ≤ w.heap.size + 1 + 1 + 1; omega) _).setCell (p := ⟨w.heap.size + 1 + 1 + 1, 1, none⟩) (by show w.heap.size ≤ w.heap.size + 1 + 1 + 1; omega) _⟩
set_option maxRecDepth 100000 in
set_option maxHeartbeats 2000000 in
theorem spec_MaskedShares (gr : GroupD) (kv lv : Value) (k : DealingD) (i : Int) (l : List DealingD) (w : World) (hk : DlR w kv k) (hl : RdR rDealing w lv l) (hln : l.length ≤ 6) :
    Calls Tryz.prog 10 #[.agg #[.int .i64 gr.p, .int .i64 gr.q, .int .i64 gr.g], kv, .int .i64 i, lv] w fun e w' => RetDB e w' w.heap.size (mkB gr k i l) (mkR gr k i l) ∧ Below w.heap.size w w' := by
  have HLN := Lib.hid hln
  clear hln
  obtain ⟨xcv, xsv, rfl, hxc, hxs⟩ := hk
  obtain ⟨xca, xcn, xcc, rfl⟩ := hxc.shape
  have Exc := Lib.hid hxc.len
  have Kxc := Lib.hid hxc.capMax
  have Hxc := Lib.hid hxc
  clear hxc
  obtain ⟨xsa, xsn, xsc, rfl⟩ := hxs.shape
  have Exs := Lib.hid hxs.len
  have Kxs := Lib.hid hxs.capMax
  have Hxs := Lib.hid hxs
  clear hxs
  obtain ⟨lva, lvn, lvc, rfl⟩ := hl.shape
  have Elv := Lib.hid hl.len
  have Klv := Lib.hid hl.capMax
  have Hlv := Lib.hid hl
  clear hl
  obtain ⟨W, hW⟩ : ∃ W, W = ((w.alloc (.cells #[.int .i64 gr.p, .int .i64 gr.q, .int .i64 gr.g] 24)).alloc (.cells #[(.slice xca xcn xcc), (.slice xsa xsn xsc)] 27)).alloc (.cells #[(.slice none 0 0), (.slice none 0 0)] 27) := ⟨_, rfl⟩
  have HB : Hid (Below w.heap.size w W) := by unfold Hid; rw [hW]; (repeat (first | exact Below.refl _ _ | assumption | refine Below.drew ?_ | refine Below.alloc ?_ (by first | (simp; done) | (simp; omega)) _ | refine Below.setCell ?_ (by first | (simp; done) | (simp; omega)) _))
  have c0_0 : W.cell? ⟨w.heap.size, 0, none⟩ = some (.int .i64 gr.p) := by rw [hW]; simp [go_sem]
  have c0_1 : W.cell? ⟨w.heap.size, 1, none⟩ = some (.int .i64 gr.q) := by rw [hW]; simp [go_sem]
  have c0_2 : W.cell? ⟨w.heap.size, 2, none⟩ = some (.int .i64 gr.g) := by rw [hW]; simp [go_sem]
  have c1_0 : W.cell? ⟨w.heap.size + 1, 0, none⟩ = some ((.slice xca xcn xcc)) := by rw [hW]; simp [go_sem]
  have c1_1 : W.cell? ⟨w.heap.size + 1, 1, none⟩ = some ((.slice xsa xsn xsc)) := by rw [hW]; simp [go_sem]
  have HR2 : Hid (BoxN W (w.heap.size + 1 + 1) 27 [(.slice none 0 0), (.slice none 0 0)]) := by unfold Hid; rw [hW]; have h := (BoxN.new ((w.alloc (.cells #[.int .i64 gr.p, .int .i64 gr.q, .int .i64 gr.g] 24)).alloc (.cells #[(.slice xca xcn xcc), (.slice xsa xsn xsc)] 27)) [(.slice none 0 0), (.slice none 0 0)] 27); simpa using h
  have HSW : Hid (W.heap.size = w.heap.size + 3) := by unfold Hid; rw [hW]; simp
  have lr2 : w.heap.size + 1 + 1 < W.heap.size := by have := HSW.out; omega
  go_enter Tryz.func10, Tryz.ntmps10
  go_wp2_with fail
  rw [← hW]
  have hse : w.heap.size + 1 + 1 + 1 = W.heap.size := by have := HSW.out; omega
  (try rw [hse])
  clear hse
  clear hW
  have hc : Below W.heap.size W W := Below.refl _ _
  have HCC : Hid (∀ u, Below W.heap.size W u → u.cell? ⟨w.heap.size, 0, none⟩ = some (.int .i64 gr.p) ∧ u.cell? ⟨w.heap.size, 1, none⟩ = some (.int .i64 gr.q) ∧ u.cell? ⟨w.heap.size, 2, none⟩ = some (.int .i64 gr.g) ∧ u.cell? ⟨w.heap.size + 1, 0, none⟩ = some ((.slice xca xcn xcc)) ∧ u.cell? ⟨w.heap.size + 1, 1, none⟩ = some ((.slice xsa xsn xsc))) := fun u h => ⟨box_at c0_0 h, box_at c0_1 h, box_at c0_2 h, box_at c1_0 h, box_at c1_1 h⟩
  go_wp2_with fail
  refine (spec_rGood gr _ k _ (DlR.mk (Hxc.out.below (HB.out.trans (hc.mono HB.out.size))) (Hxs.out.below (HB.out.trans (hc.mono HB.out.size))))).mono ?_
  rintro e u1 ⟨rfl, hq1⟩
  replace hc := Below.next hc hq1
  clear hq1 c0_0 c0_1 c0_2 c1_0 c1_1
  obtain ⟨c0_0, c0_1, c0_2, c1_0, c1_1⟩ := HCC.out _ hc
  cases hc1 : vdB gr k with
  | false =>
    have Hhc1 := Lib.hid hc1
    clear hc1
    have HRE2 := Lib.hid (HR2.out.below hc)
    clear HR2
    have HBE := Lib.hid (HB.out.trans (hc.mono HB.out.size))
    have r2_0 := HRE2.out.cell (i := 0) rfl
    have r2_1 := HRE2.out.cell (i := 1) rfl
    have fr2 := fun j => HRE2.out.frozen j
    go_wp2_with fail
    have HRF := Lib.hid ((HRE2.out.set 0 ((.slice none 0 0))).set 1 ((.slice none 0 0)))
    have HBF := Lib.hid ((HBE.out.setCell (p := ⟨w.heap.size + 1 + 1, 0, none⟩) (by show w.heap.size ≤ w.heap.size + 1 + 1; omega) ((.slice none 0 0))).setCell (p := ⟨w.heap.size + 1 + 1, 1, none⟩) (by show w.heap.size ≤ w.heap.size + 1 + 1; omega) ((.slice none 0 0)))
    clear r2_0 r2_1 fr2
    have r2_0 := HRF.out.cell (i := 0) rfl
    have r2_1 := HRF.out.cell (i := 1) rfl
    try (go_wp2_with fail)
    have HVB : Hid (mkB gr k i l = false) := by unfold Hid; simp only [mkB, ssB, rkB, Hhc1.out, Bool.true_and, Bool.false_and, Bool.and_true, Bool.and_false]
    have HPR : Hid (mkR gr k i l = ⟨[], []⟩) := mk_no HVB.out
    refine bodyPost_ret (v := .tuple #[.agg #[(.slice none 0 0), (.slice none 0 0)], .bool false]) (by simp [results, Tryz.results10, go_sem, r2_0, r2_1]) rfl ⟨(by rw [HVB.out, HPR.out]; exact RetDB.mk (OwnI.nil _ _) (OwnI.nil _ _)), HBF.out⟩
  | true =>
    have HVK := Lib.hid hc1
    have HG := Lib.hid (vdB_parts hc1).1
    have HDK := Lib.hid (vdB_parts hc1).2
    have Hhc1 := Lib.hid hc1
    clear hc1
    go_wp2_with fail
    refine (spec_rList gr _ l _ HG.out (Hlv.out.below (HB.out.trans (hc.mono HB.out.size)))).mono ?_
    rintro e u2 ⟨rfl, hq2⟩
    replace hc := Below.next hc hq2
    clear hq2 c0_0 c0_1 c0_2 c1_0 c1_1
    obtain ⟨c0_0, c0_1, c0_2, c1_0, c1_1⟩ := HCC.out _ hc
    cases hc2 : dsB gr l with
    | false =>
      have Hhc2 := Lib.hid hc2
      clear hc2
      have HRE2 := Lib.hid (HR2.out.below hc)
      clear HR2
      have HBE := Lib.hid (HB.out.trans (hc.mono HB.out.size))
      have r2_0 := HRE2.out.cell (i := 0) rfl
      have r2_1 := HRE2.out.cell (i := 1) rfl
      have fr2 := fun j => HRE2.out.frozen j
      go_wp2_with fail
      have HRF := Lib.hid ((HRE2.out.set 0 ((.slice none 0 0))).set 1 ((.slice none 0 0)))
      have HBF := Lib.hid ((HBE.out.setCell (p := ⟨w.heap.size + 1 + 1, 0, none⟩) (by show w.heap.size ≤ w.heap.size + 1 + 1; omega) ((.slice none 0 0))).setCell (p := ⟨w.heap.size + 1 + 1, 1, none⟩) (by show w.heap.size ≤ w.heap.size + 1 + 1; omega) ((.slice none 0 0)))
      clear r2_0 r2_1 fr2
      have r2_0 := HRF.out.cell (i := 0) rfl
      have r2_1 := HRF.out.cell (i := 1) rfl
      try (go_wp2_with fail)
      have HVB : Hid (mkB gr k i l = false) := by unfold Hid; simp only [mkB, ssB, rkB, Hhc1.out, Hhc2.out, Bool.true_and, Bool.false_and, Bool.and_true, Bool.and_false]
      have HPR : Hid (mkR gr k i l = ⟨[], []⟩) := mk_no HVB.out
      refine bodyPost_ret (v := .tuple #[.agg #[(.slice none 0 0), (.slice none 0 0)], .bool false]) (by simp [results, Tryz.results10, go_sem, r2_0, r2_1]) rfl ⟨(by rw [HVB.out, HPR.out]; exact RetDB.mk (OwnI.nil _ _) (OwnI.nil _ _)), HBF.out⟩
    | true =>
      have HDS := Lib.hid hc2
      have Hhc2 := Lib.hid hc2
      clear hc2
      go_wp2_with fail
      refine (spec_l1In i 1 7 _).mono ?_
      rintro e u3 ⟨rfl, rfl⟩
      cases hc3 : decide (1 ≤ i ∧ i ≤ 7) with
      | false =>
        have HRE2 := Lib.hid (HR2.out.below hc)
        clear HR2
        have HBE := Lib.hid (HB.out.trans (hc.mono HB.out.size))
        have r2_0 := HRE2.out.cell (i := 0) rfl
        have r2_1 := HRE2.out.cell (i := 1) rfl
        have fr2 := fun j => HRE2.out.frozen j
        go_wp2_with fail
        have HRF := Lib.hid ((HRE2.out.set 0 ((.slice none 0 0))).set 1 ((.slice none 0 0)))
        have HBF := Lib.hid ((HBE.out.setCell (p := ⟨w.heap.size + 1 + 1, 0, none⟩) (by show w.heap.size ≤ w.heap.size + 1 + 1; omega) ((.slice none 0 0))).setCell (p := ⟨w.heap.size + 1 + 1, 1, none⟩) (by show w.heap.size ≤ w.heap.size + 1 + 1; omega) ((.slice none 0 0)))
        clear r2_0 r2_1 fr2
        have r2_0 := HRF.out.cell (i := 0) rfl
        have r2_1 := HRF.out.cell (i := 1) rfl
        try (go_wp2_with fail)
        have HVB : Hid (mkB gr k i l = false) := by unfold Hid; simp only [mkB, ssB, rkB, Hhc1.out, Hhc2.out, hc3, Bool.true_and, Bool.false_and, Bool.and_true, Bool.and_false]
        have HPR : Hid (mkR gr k i l = ⟨[], []⟩) := mk_no HVB.out
        refine bodyPost_ret (v := .tuple #[.agg #[(.slice none 0 0), (.slice none 0 0)], .bool false]) (by simp [results, Tryz.results10, go_sem, r2_0, r2_1]) rfl ⟨(by rw [HVB.out, HPR.out]; exact RetDB.mk (OwnI.nil _ _) (OwnI.nil _ _)), HBF.out⟩
      | true =>
        have HQI := Lib.hid hc3
        have HIB : Hid (0 ≤ i ∧ i ≤ 1000) := by have := of_decide_eq_true hc3; unfold Hid; omega
        have HRK : Hid (rkB gr k l = true) := by unfold Hid rkB; rw [HVK.out, HDS.out]; rfl
        have HDE : Hid (∀ d ∈ l, deB gr d = true) := (rkB_parts HRK.out).2.2.2
        have HBS := Lib.hid (HB.out.trans (hc.mono HB.out.size))
        have HRX := Lib.hid (HR2.out.below hc)
        have HLS := Lib.hid (Hlv.out.below HBS.out)
        have HKD : Hid (DlR u2 (.agg #[.slice xca xcn xcc, .slice xsa xsn xsc]) k) := (DlR.mk Hxc.out Hxs.out : DlR w _ k).below HBS.out
        have HWS := Lib.hid hc
        have hlr : w.heap.size + 1 + 1 < u2.heap.size := HRX.out.lt
        have hszS := HBS.out.size
        go_wp2_with fail
        clear hc c0_0 c0_1 c0_2 c1_0 c1_1
        have HB := HBS
        go_loopg [30] lvn (fun gk iv wr => ∃ j : Nat, j + gk = lvn ∧ iv = .int .i64 (j : Int) ∧ Hid (∀ d ∈ l.take j, (smB d k && zeB gr d i) = true) ∧ Hid (Below u2.heap.size u2 wr))
        case atStart => exact ⟨0, by omega, rfl, Lib.hid (fun d hd => by simp at hd), Below.refl _ _⟩
        case round =>
          obtain ⟨j, hkg, rfl, HALL, HBR⟩ := hrel
          have hszr := HBR.out.size
          have cc := HCC.out wr (Below.next HWS.out HBR.out)
          by_cases hlt : j < lvn
          · have hgj : lvn - (j + 1) < gk := by omega
            have hwk : IntKind.i64.wrap ((j : Int) + 1) = (j : Int) + 1 := IntWalk.i64_in _ (by have := Elv.out; have := HLN.out; omega)
            have HK : Hid (j < l.length) := by unfold Hid; rw [Elv.out]; exact hlt
            have HDD := Lib.hid (HDE.out _ (List.getElem_mem HK.out))
            have HMM := Lib.hid (List.getElem_mem HK.out)
            have HT : Hid ((smB (l[j]'HK.out) k && zeB gr (l[j]'HK.out) i) = true → ∀ d ∈ l.take (j + 1), (smB d k && zeB gr d i) = true) := fun q => take_all' HK.out HALL.out q
            obtain ⟨b2, o2, p0, m0, k0, p1, m1, k1, e, y0, y1, f0, f1⟩ := RdDl.get HLS.out HK.out
            have e' := e
            subst e'
            clear e
            generalize l[j]'HK.out = d at f0 f1 HDD HT HMM
            have y0 := box_at y0 HBR.out
            have y1 := box_at y1 HBR.out
            have HDl : Hid (DlR u2 (.agg #[.slice p0 m0 k0, .slice p1 m1 k1]) d) := DlR.mk f0 f1
            clear f0 f1
            obtain ⟨V, hV⟩ : ∃ V, V = wr.alloc (.cells #[.slice p0 m0 k0, .slice p1 m1 k1] 61) := ⟨_, rfl⟩
            have hbV : Below wr.heap.size wr V := by rw [hV]; exact (Below.refl _ _).alloc (Nat.le_refl _) _
            have HZ : Hid (BoxN V wr.heap.size 61 [.slice p0 m0 k0, .slice p1 m1 k1]) := by unfold Hid; rw [hV]; exact BoxN.new wr _ _
            have kk0 : (0 : Int) ≤ (j : Int) := by omega
            have kk1 : (j : Int) < (lvn : Int) := by omega
            have hly := World.block_lt_of_cell? wr _ y0
            obtain ⟨c0_0, c0_1, c0_2, c1_0, c1_1⟩ := cc
            have hl0 := World.block_lt_of_cell? wr _ c0_0
            have hl1 := World.block_lt_of_cell? wr _ c1_0
            go_wp2_with fail
            rw [← hV]
            have HBV : Hid (Below u2.heap.size u2 V) := Below.next HBR.out hbV
            clear hV y0 y1 kk0 kk1 c0_0 c0_1 c0_2 c1_0 c1_1 hbV hly hl0 hl1
            refine (spec_rAlike _ _ k d _ (HKD.out.below HBV.out) (HDl.out.below HBV.out)).mono ?_
            rintro e uq1 ⟨rfl, hq⟩
            have HB1 : Hid (Below u2.heap.size u2 uq1) := Below.next HBV.out hq
            replace HZ := Lib.hid (HZ.out.below hq)
            clear hq
            have hs1 := HB1.out.size
            cases hqs : smB d k with
            | false =>
              have HMB : Hid (mkB gr k i l = false) := by
                have : (l.all fun d => smB d k) = false := by rw [List.all_eq_false]; exact ⟨d, HMM.out, by rw [hqs]; simp⟩
                unfold Hid mkB ssB; rw [this, Bool.and_false, Bool.false_and]
              clear hqs
              have HMR := Lib.hid (mk_no HMB.out)
              have HR := Lib.hid (HRX.out.below HB1.out)
              have r0 := HR.out.cell (i := 0) rfl
              have r1 := HR.out.cell (i := 1) rfl
              have fr := fun j => HR.out.frozen j
              (try (go_wp2_with fail))
              clear r0 r1 fr
              have HRF := Lib.hid ((HR.out.set 0 (.slice none 0 0)).set 1 (.slice none 0 0))
              have t0 := HRF.out.cell (i := 0) rfl
              have t1 := HRF.out.cell (i := 1) rfl
              try (go_wp2_with fail)
              refine bodyPost_ret (v := .tuple #[.agg #[.slice none 0 0, .slice none 0 0], .bool false]) (by simp [results, Tryz.results10, go_sem, t0, t1]) rfl ⟨by rw [HMB.out, HMR.out]; exact RetDB.mk (OwnI.nil _ _) (OwnI.nil _ _), ((HB.out.trans (HB1.out.mono HB.out.size)).setCell (p := ⟨w.heap.size + 1 + 1, 0, none⟩) (by show w.heap.size ≤ w.heap.size + 1 + 1; omega) _).setCell (p := ⟨w.heap.size + 1 + 1, 1, none⟩) (by show w.heap.size ≤ w.heap.size + 1 + 1; omega) _⟩
            | true =>
              have HQS := Lib.hid hqs
              clear hqs
              obtain ⟨c0_0, c0_1, c0_2, c1_0, c1_1⟩ := HCC.out uq1 (Below.next HWS.out HB1.out)
              have z0 := HZ.out.cell (i := 0) rfl
              have z1 := HZ.out.cell (i := 1) rfl
              go_wp2_with fail
              refine (spec_rZero gr _ d i _ HG.out (HDl.out.below HB1.out) HDD.out HIB.out).mono ?_
              rintro e uq2 ⟨rfl, hq⟩
              have HB2 : Hid (Below u2.heap.size u2 uq2) := Below.next HB1.out hq
              clear hq c0_0 c0_1 c0_2 c1_0 c1_1 z0 z1
              have hs2 := HB2.out.size
              cases hqz : zeB gr d i with
              | false =>
                have HMB : Hid (mkB gr k i l = false) := by
                  have : (l.all fun d => zeB gr d i) = false := by rw [List.all_eq_false]; exact ⟨d, HMM.out, by rw [hqz]; simp⟩
                  unfold Hid mkB; rw [this, Bool.and_false, Bool.and_false]
                clear hqz
                have HMR := Lib.hid (mk_no HMB.out)
                have HR := Lib.hid (HRX.out.below HB2.out)
                have r0 := HR.out.cell (i := 0) rfl
                have r1 := HR.out.cell (i := 1) rfl
                have fr := fun j => HR.out.frozen j
                (try (go_wp2_with fail))
                clear r0 r1 fr
                have HRF := Lib.hid ((HR.out.set 0 (.slice none 0 0)).set 1 (.slice none 0 0))
                have t0 := HRF.out.cell (i := 0) rfl
                have t1 := HRF.out.cell (i := 1) rfl
                try (go_wp2_with fail)
                refine bodyPost_ret (v := .tuple #[.agg #[.slice none 0 0, .slice none 0 0], .bool false]) (by simp [results, Tryz.results10, go_sem, t0, t1]) rfl ⟨by rw [HMB.out, HMR.out]; exact RetDB.mk (OwnI.nil _ _) (OwnI.nil _ _), ((HB.out.trans (HB2.out.mono HB.out.size)).setCell (p := ⟨w.heap.size + 1 + 1, 0, none⟩) (by show w.heap.size ≤ w.heap.size + 1 + 1; omega) _).setCell (p := ⟨w.heap.size + 1 + 1, 1, none⟩) (by show w.heap.size ≤ w.heap.size + 1 + 1; omega) _⟩
              | true =>
                have HN := Lib.hid (HT.out (by rw [HQS.out, hqz]; rfl))
                clear hqz
                go_wp2_with fail
                go_roundg (lvn - (j + 1))
                case measure => exact hgj
                case rel => exact ⟨j + 1, by omega, by go_num, HN, HB2⟩
          · obtain rfl : lvn = j := by omega
            have HTT : Hid (l.take lvn = l) := List.take_of_length_le (by rw [Elv.out]; exact Nat.le_refl _)
            rw [HTT.out] at HALL
            have HSA : Hid ((l.all fun d => smB d k) = true) := List.all_eq_true.2 fun d hd => by have h := HALL.out d hd; rw [Bool.and_eq_true] at h; exact h.1
            have HZA : Hid ((l.all fun d => zeB gr d i) = true) := List.all_eq_true.2 fun d hd => by have h := HALL.out d hd; rw [Bool.and_eq_true] at h; exact h.2
            have HMB : Hid (mkB gr k i l = true) := by unfold Hid mkB ssB; rw [HRK.out, HSA.out, HQI.out, HZA.out]; rfl
            have HMR : Hid (mkR gr k i l = smD gr (k :: l)) := mk_yes HMB.out
            have HAL := Lib.hid (ss_al HVK.out HDS.out HSA.out HLN.out)
            obtain ⟨c0_0, c0_1, c0_2, c1_0, c1_1⟩ := cc
            go_wp2_with fail
            clear c0_0 c0_1 c0_2 c1_0 c1_1
            refine (spec_rSum gr _ _ k l _ HG.out (HKD.out.below HBR.out) (HLS.out.below HBR.out) HAL.out).mono ?_
            rintro e uq9 ⟨⟨x, y, rfl, hox, hoy⟩, hb⟩
            have HB9 : Hid (Below u2.heap.size u2 uq9) := Below.next HBR.out hb
            have hs9 := hb.size
            clear hb
            obtain ⟨ax, cx, rfl⟩ := OwnI.shapeN (n := (smD gr (k :: l)).c.length) hox rfl
            obtain ⟨ay, cy, rfl⟩ := OwnI.shapeN (n := (smD gr (k :: l)).s.length) hoy rfl
            have HOX := Lib.hid hox
            have HOY := Lib.hid hoy
            clear hox hoy
            have HR := Lib.hid (HRX.out.below HB9.out)
            have r0 := HR.out.cell (i := 0) rfl
            have r1 := HR.out.cell (i := 1) rfl
            have fr := fun j => HR.out.frozen j
            (try (go_wp2_with fail))
            clear r0 r1 fr
            have HRF := Lib.hid ((HR.out.set 0 (.slice ax (smD gr (k :: l)).c.length cx)).set 1 (.slice ay (smD gr (k :: l)).s.length cy))
            have t0 := HRF.out.cell (i := 0) rfl
            have t1 := HRF.out.cell (i := 1) rfl
            try (go_wp2_with fail)
            refine bodyPost_ret (v := .tuple #[.agg #[.slice ax (smD gr (k :: l)).c.length cx, .slice ay (smD gr (k :: l)).s.length cy], .bool true]) (by simp [results, Tryz.results10, go_sem, t0, t1]) rfl ⟨by rw [HMB.out, HMR.out]; exact RetDB.mk (((HOX.out.oth (b := w.heap.size + 1 + 1) (by omega) 0 (.slice ax (smD gr (k :: l)).c.length cx)).oth (b := w.heap.size + 1 + 1) (by omega) 1 (.slice ay (smD gr (k :: l)).s.length cy)).mono (by omega)) (((HOY.out.oth (b := w.heap.size + 1 + 1) (by omega) 0 (.slice ax (smD gr (k :: l)).c.length cx)).oth (b := w.heap.size + 1 + 1) (by omega) 1 (.slice ay (smD gr (k :: l)).s.length cy)).mono (by omega)), ((HB.out.trans (HB9.out.mono HB.out.size)).setCell (p := ⟨w.heap.size + 1 + 1, 0, none⟩) (by show w.heap.size ≤ w.heap.size + 1 + 1; omega) _).setCell (p := ⟨w.heap.size + 1 + 1, 1, none⟩) (by show w.heap.size ≤ w.heap.size + 1 + 1; omega) _⟩
end Go.Proofs.YtacpnphfopmofaaGreat
namespace Go.Proofs.YtacpnphfopmofaaGreat
open Go.RowKit
set_option linter.unusedSimpArgs false
set_option linter.unusedVariables false

theorem RowsI.more {w : World} {B : Nat} {rs : List (Value × List Int)} (h : RowsI w B rs) : RowsI w B (rs ++ [(.slice none 0 0, [])]) := by
  have get : ∀ (j : Nat) y m, (rs ++ [((.slice none 0 0 : Value), ([] : List Int))])[j]? = some (y, m) → rs[j]? = some (y, m) ∨ (y = .slice none 0 0 ∧ m = []) := by
    intro j y m e
    by_cases hj : j < rs.length
    · rw [List.getElem?_append_left hj] at e; exact .inl e
    · rw [List.getElem?_append_right (Nat.le_of_not_lt hj)] at e
      cases hq : j - rs.length with
      | zero => rw [hq] at e; cases e; exact .inr ⟨rfl, rfl⟩
      | succ n => rw [hq] at e; simp at e
  refine ⟨?_, ?_⟩
  · intro j y m e
    rcases get j y m e with q | ⟨rfl, rfl⟩
    · exact h.own j y m q
    · exact OwnI.nil _ _
  · intro i j y m z n hne e1 e2 k hk
    rcases get i y m e1 with q1 | ⟨rfl, rfl⟩
    · rcases get j z n e2 with q2 | ⟨rfl, rfl⟩
      · exact h.ne i j y m z n hne q1 q2 k hk
      · intro q; cases q
    · cases hk
/-- rows that grow in a region: boxes stay -/
structure GrI (B : Nat) (u0 u : World) (rs : List (Value × List Int)) : Prop where
  rows : RowsI u B rs
  box : ∀ b t cs, t ≠ 3 → BoxN u0 b t cs → BoxN u b t cs
  bel : Below B u0 u
  hi : B ≤ u.heap.size
theorem GrI.lit1 {o : Oper} {a : Act} {u0 w : World} {K : Act → World → Prop} {Q : Exit → Act → World → Prop} (x : Operand)
    (ho : o.op = .buildSlice 25 1 #[(0, x)]) {B : Nat} {rs : List (Value × List Int)} (h : GrI B u0 w rs)
    (i : Nat) (hi : rs[i]? = some (.slice none 0 0, [])) {X : Int} (hX : I64 X) (hx : a.eval x = .int .i64 X)
    (hK : ∀ v' w', GrI B u0 w' (rs.set i (v', [X])) → K (a.put o.dst v') w') : Oper.wp Tryz.prog o a w K Q := by
  have hr := h.rows.lit h.hi hi (AllI64.cons hX AllI64.nil) (cs := #[.int .i64 X]) rfl (by simp [maxLen]) 1 rfl
  have hb : Below w.heap.size w (w.alloc (.cells #[.int .i64 X] 3)) := (Below.refl _ _).alloc (Nat.le_refl _) _
  have h2 := hK _ _ ⟨hr, fun b t cs ht q => (h.box b t cs ht q).below hb, h.bel.trans (hb.mono h.hi), Nat.le_trans h.hi hb.size⟩
  unfold Oper.wp execOp
  simp only [ho]
  generalize a.eval = ev at hx ⊢
  go_simp
  exact h2
theorem GrI.app {o : Oper} {a : Act} {u0 w : World} {K : Act → World → Prop} {Q : Exit → Act → World → Prop} (s x : Operand)
    (ho : o.op = .call { callee := .builtin .append, args := #[s, x], argTypes := #[25, 25] })
    {B : Nat} {rs : List (Value × List Int)} (h : GrI B u0 w rs)
    (i j : Nat) {v y : Value} {l m : List Int} (hi : rs[i]? = some (v, l)) (hj : rs[j]? = some (y, m)) (hm : m ≠ []) (N : Nat) (hN : l.length + m.length = N) (hlen : N ≤ 1000000000000) (hs : a.eval s = v) (hxx : a.eval x = y)
    (hK : ∀ a' c' w', GrI B u0 w' (rs.set i (.slice a' N c', l ++ m)) → K (a.put o.dst (.slice a' N c')) w') : Oper.wp Tryz.prog o a w K Q := by
  refine RowsI.do_app s x ho h.rows h.hi i j hi hj hm (by omega) hs hxx ?_
  intro v' w' h1 h2 h3
  have hil : i < rs.length := (List.getElem?_eq_some_iff.1 hi).1
  obtain ⟨a', c', e⟩ := (h1.own i v' (l ++ m) (List.getElem?_set_self hil)).shape
  rw [List.length_append, hN] at e
  subst e
  exact hK a' c' w' ⟨h1, fun b t cs ht q => h2 b t cs ht (h.box b t cs ht q), h.bel.trans h3, Nat.le_trans h.hi h3.size⟩
end Go.Proofs.YtacpnphfopmofaaGreat

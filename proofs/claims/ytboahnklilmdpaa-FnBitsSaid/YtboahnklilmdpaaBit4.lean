/- Bits: ProveBit, VerifyBit: walks (printed by gen_bit4.py). -/
import Derived.Test.YtboahnklilmdpaaBit2
import Derived.Test.YtboahnklilmdpaaBit3
namespace Go.Proofs.Ytboahnklilmdpaa
open Go.RowKit
set_option linter.unusedSimpArgs false
set_option linter.unusedVariables false

theorem btD_len (gr : GroupD) (s : ByteArray) (bh m r : Int) (cs : List Int) : (btD gr s bh m r cs).c.length = 2 ∧ (btD gr s bh m r cs).h.length = 2 ∧ (btD gr s bh m r cs).r.length = 2 := by
  unfold btD
  split <;> exact ⟨rfl, rfl, rfl⟩
set_option maxRecDepth 100000 in
set_option maxHeartbeats 2000000 in
theorem impl_ProveBit (gr : GroupD) (bh : Int) (bv : Value) (bl : List Int) (m r : Int) (cv : Value) (cs : List Int) (w : World) (hb : Ints w bv bl) (ibh : I64 bh) (hm : I64 m) (hr : I64 r) (hcs : Ints w cv cs) :
    Calls Try.prog 91 #[.agg #[.int .i64 gr.p, .int .i64 gr.q, .int .i64 gr.g], .agg #[.int .i64 bh, bv], .int .i64 m, .int .i64 r, cv] w fun e w' => RetP e w' w.heap.size (pbB gr bh bl m r cs) (pbR gr sBit bh bl m r cs) ∧ Below w.heap.size w w' := by
  obtain ⟨bva, bvn, bvc, rfl⟩ := hb.shape
  have Ebv := Lib.hid hb.len
  have Kbv := Lib.hid hb.capMax
  have Hbv := Lib.hid hb
  clear hb
  obtain ⟨cva, cvn, cvc, rfl⟩ := hcs.shape
  have Ecv := Lib.hid hcs.len
  have Kcv := Lib.hid hcs.capMax
  have Hcv := Lib.hid hcs
  clear hcs
  obtain ⟨W, hW⟩ : ∃ W, W = ((w.alloc (.cells #[.int .i64 gr.p, .int .i64 gr.q, .int .i64 gr.g] 39)).alloc (.cells #[.int .i64 bh, (.slice bva bvn bvc)] 79)).alloc (.cells #[(.slice none 0 0), (.slice none 0 0), (.slice none 0 0)] 42) := ⟨_, rfl⟩
  have HB : Hid (Below w.heap.size w W) := by unfold Hid; rw [hW]; (repeat (first | exact Below.refl _ _ | assumption | refine Below.drew ?_ | refine Below.alloc ?_ (by first | (simp; done) | (simp; omega)) _ | refine Below.setCell ?_ (by first | (simp; done) | (simp; omega)) _))
  have c0_0 : W.cell? ⟨w.heap.size, 0, none⟩ = some (.int .i64 gr.p) := by rw [hW]; simp [go_sem]
  have c0_1 : W.cell? ⟨w.heap.size, 1, none⟩ = some (.int .i64 gr.q) := by rw [hW]; simp [go_sem]
  have c0_2 : W.cell? ⟨w.heap.size, 2, none⟩ = some (.int .i64 gr.g) := by rw [hW]; simp [go_sem]
  have c1_0 : W.cell? ⟨w.heap.size + 1, 0, none⟩ = some (.int .i64 bh) := by rw [hW]; simp [go_sem]
  have c1_1 : W.cell? ⟨w.heap.size + 1, 1, none⟩ = some ((.slice bva bvn bvc)) := by rw [hW]; simp [go_sem]
  have HR2 : Hid (BoxN W (w.heap.size + 1 + 1) 42 [(.slice none 0 0), (.slice none 0 0), (.slice none 0 0)]) := by unfold Hid; rw [hW]; have h := (BoxN.new ((w.alloc (.cells #[.int .i64 gr.p, .int .i64 gr.q, .int .i64 gr.g] 39)).alloc (.cells #[.int .i64 bh, (.slice bva bvn bvc)] 79)) [(.slice none 0 0), (.slice none 0 0), (.slice none 0 0)] 42); simpa using h
  have HSW : Hid (W.heap.size = w.heap.size + 3) := by unfold Hid; rw [hW]; simp
  have lr2 : w.heap.size + 1 + 1 < W.heap.size := by have := HSW.out; omega
  go_enter Try.func91, Try.ntmps91
  go_wp2_with fail
  rw [← hW]
  have hse : w.heap.size + 1 + 1 + 1 = W.heap.size := by have := HSW.out; omega
  (try rw [hse])
  clear hse
  clear hW
  have hc : Below W.heap.size W W := Below.refl _ _
  have HCC : Hid (∀ u, Below W.heap.size W u → u.cell? ⟨w.heap.size, 0, none⟩ = some (.int .i64 gr.p) ∧ u.cell? ⟨w.heap.size, 1, none⟩ = some (.int .i64 gr.q) ∧ u.cell? ⟨w.heap.size, 2, none⟩ = some (.int .i64 gr.g) ∧ u.cell? ⟨w.heap.size + 1, 0, none⟩ = some (.int .i64 bh) ∧ u.cell? ⟨w.heap.size + 1, 1, none⟩ = some ((.slice bva bvn bvc))) := fun u h => ⟨box_at c0_0 h, box_at c0_1 h, box_at c0_2 h, box_at c1_0 h, box_at c1_1 h⟩
  go_wp2_with fail
  refine (impl_IsValidBases gr bh _ bl _ (Hbv.out.below (HB.out.trans (hc.mono HB.out.size))) ibh).mono ?_
  rintro e u1 ⟨rfl, hq1⟩
  replace hc := Below.next hc hq1
  clear hq1 c0_0 c0_1 c0_2 c1_0 c1_1
  obtain ⟨c0_0, c0_1, c0_2, c1_0, c1_1⟩ := HCC.out _ hc
  cases hc1 : baB gr bh bl with
  | false =>
    have Hhc1 := Lib.hid hc1
    clear hc1
    have HRE2 := Lib.hid (HR2.out.below hc)
    clear HR2
    have HBE := Lib.hid (HB.out.trans (hc.mono HB.out.size))
    have r2_0 := HRE2.out.cell (i := 0) rfl
    have r2_1 := HRE2.out.cell (i := 1) rfl
    have r2_2 := HRE2.out.cell (i := 2) rfl
    have fr2 := fun j => HRE2.out.frozen j
    go_wp2_with fail
    have HRF := Lib.hid (((HRE2.out.set 0 ((.slice none 0 0))).set 1 ((.slice none 0 0))).set 2 ((.slice none 0 0)))
    have HBF := Lib.hid (((HBE.out.setCell (p := ⟨w.heap.size + 1 + 1, 0, none⟩) (by show w.heap.size ≤ w.heap.size + 1 + 1; omega) ((.slice none 0 0))).setCell (p := ⟨w.heap.size + 1 + 1, 1, none⟩) (by show w.heap.size ≤ w.heap.size + 1 + 1; omega) ((.slice none 0 0))).setCell (p := ⟨w.heap.size + 1 + 1, 2, none⟩) (by show w.heap.size ≤ w.heap.size + 1 + 1; omega) ((.slice none 0 0)))
    clear r2_0 r2_1 r2_2 fr2
    have r2_0 := HRF.out.cell (i := 0) rfl
    have r2_1 := HRF.out.cell (i := 1) rfl
    have r2_2 := HRF.out.cell (i := 2) rfl
    try (go_wp2_with fail)
    have HVB : Hid (pbB gr bh bl m r cs = false) := by unfold Hid; simp [pbB, Hhc1.out]
    have HPR : Hid (pbR gr sBit bh bl m r cs = ⟨[], [], []⟩) := by unfold Hid pbR; rw [if_neg (by rw [HVB.out]; simp)]
    refine bodyPost_ret (v := .tuple #[.agg #[(.slice none 0 0), (.slice none 0 0), (.slice none 0 0)], .bool false]) (by simp [results, Try.results91, go_sem, r2_0, r2_1, r2_2]) rfl ⟨(by rw [HVB.out, HPR.out]; exact RetP.mk (OwnI.nil _ _) (OwnI.nil _ _) (OwnI.nil _ _)), HBF.out⟩
  | true =>
    have HBA := Lib.hid (baB_parts hc1)
    have HG := Lib.hid (goodG_ok HBA.out.1)
    have sbh : Small bh := elB_small HG.out HBA.out.2.1
    have Hhc1 := Lib.hid hc1
    clear hc1
    go_wp2_with fail
    refine (impl_within m 0 1 _).mono ?_
    rintro e u2 ⟨rfl, rfl⟩
    cases hc2 : decide (0 ≤ m ∧ m ≤ 1) with
    | false =>
      have HRE2 := Lib.hid (HR2.out.below hc)
      clear HR2
      have HBE := Lib.hid (HB.out.trans (hc.mono HB.out.size))
      have r2_0 := HRE2.out.cell (i := 0) rfl
      have r2_1 := HRE2.out.cell (i := 1) rfl
      have r2_2 := HRE2.out.cell (i := 2) rfl
      have fr2 := fun j => HRE2.out.frozen j
      go_wp2_with fail
      have HRF := Lib.hid (((HRE2.out.set 0 ((.slice none 0 0))).set 1 ((.slice none 0 0))).set 2 ((.slice none 0 0)))
      have HBF := Lib.hid (((HBE.out.setCell (p := ⟨w.heap.size + 1 + 1, 0, none⟩) (by show w.heap.size ≤ w.heap.size + 1 + 1; omega) ((.slice none 0 0))).setCell (p := ⟨w.heap.size + 1 + 1, 1, none⟩) (by show w.heap.size ≤ w.heap.size + 1 + 1; omega) ((.slice none 0 0))).setCell (p := ⟨w.heap.size + 1 + 1, 2, none⟩) (by show w.heap.size ≤ w.heap.size + 1 + 1; omega) ((.slice none 0 0)))
      clear r2_0 r2_1 r2_2 fr2
      have r2_0 := HRF.out.cell (i := 0) rfl
      have r2_1 := HRF.out.cell (i := 1) rfl
      have r2_2 := HRF.out.cell (i := 2) rfl
      try (go_wp2_with fail)
      have HVB : Hid (pbB gr bh bl m r cs = false) := by unfold Hid; simp [pbB, Hhc1.out, hc2]
      have HPR : Hid (pbR gr sBit bh bl m r cs = ⟨[], [], []⟩) := by unfold Hid pbR; rw [if_neg (by rw [HVB.out]; simp)]
      refine bodyPost_ret (v := .tuple #[.agg #[(.slice none 0 0), (.slice none 0 0), (.slice none 0 0)], .bool false]) (by simp [results, Try.results91, go_sem, r2_0, r2_1, r2_2]) rfl ⟨(by rw [HVB.out, HPR.out]; exact RetP.mk (OwnI.nil _ _) (OwnI.nil _ _) (OwnI.nil _ _)), HBF.out⟩
    | true =>
      have HM : Hid (m = 0 ∨ m = 1) := by have q : 0 ≤ m ∧ m ≤ 1 := of_decide_eq_true hc2; unfold Hid; omega
      go_wp2_with fail
      refine (impl_isExp gr r _ HG.out).mono ?_
      rintro e u3 ⟨rfl, hq3⟩
      replace hc := Below.next hc hq3
      clear hq3 c0_0 c0_1 c0_2 c1_0 c1_1
      obtain ⟨c0_0, c0_1, c0_2, c1_0, c1_1⟩ := HCC.out _ hc
      cases hc3 : expB gr r with
      | false =>
        have Hhc3 := Lib.hid hc3
        clear hc3
        have HRE2 := Lib.hid (HR2.out.below hc)
        clear HR2
        have HBE := Lib.hid (HB.out.trans (hc.mono HB.out.size))
        have r2_0 := HRE2.out.cell (i := 0) rfl
        have r2_1 := HRE2.out.cell (i := 1) rfl
        have r2_2 := HRE2.out.cell (i := 2) rfl
        have fr2 := fun j => HRE2.out.frozen j
        go_wp2_with fail
        have HRF := Lib.hid (((HRE2.out.set 0 ((.slice none 0 0))).set 1 ((.slice none 0 0))).set 2 ((.slice none 0 0)))
        have HBF := Lib.hid (((HBE.out.setCell (p := ⟨w.heap.size + 1 + 1, 0, none⟩) (by show w.heap.size ≤ w.heap.size + 1 + 1; omega) ((.slice none 0 0))).setCell (p := ⟨w.heap.size + 1 + 1, 1, none⟩) (by show w.heap.size ≤ w.heap.size + 1 + 1; omega) ((.slice none 0 0))).setCell (p := ⟨w.heap.size + 1 + 1, 2, none⟩) (by show w.heap.size ≤ w.heap.size + 1 + 1; omega) ((.slice none 0 0)))
        clear r2_0 r2_1 r2_2 fr2
        have r2_0 := HRF.out.cell (i := 0) rfl
        have r2_1 := HRF.out.cell (i := 1) rfl
        have r2_2 := HRF.out.cell (i := 2) rfl
        try (go_wp2_with fail)
        have HVB : Hid (pbB gr bh bl m r cs = false) := by unfold Hid; simp [pbB, Hhc1.out, hc2, Hhc3.out]
        have HPR : Hid (pbR gr sBit bh bl m r cs = ⟨[], [], []⟩) := by unfold Hid pbR; rw [if_neg (by rw [HVB.out]; simp)]
        refine bodyPost_ret (v := .tuple #[.agg #[(.slice none 0 0), (.slice none 0 0), (.slice none 0 0)], .bool false]) (by simp [results, Try.results91, go_sem, r2_0, r2_1, r2_2]) rfl ⟨(by rw [HVB.out, HPR.out]; exact RetP.mk (OwnI.nil _ _) (OwnI.nil _ _) (OwnI.nil _ _)), HBF.out⟩
      | true =>
        have HR : Hid (expB gr r = true) := by unfold Hid; simpa using hc3
        have Hhc3 := Lib.hid hc3
        clear hc3
        cases hc4 : ((cvn : Int) != 3) with
        | false =>
          have HL2 : Hid (decide (cs.length = 3) = true) := by have q := hc4; rw [bne_eq_false_iff_eq] at q; exact decide_eq_true (by have := Ecv.out; omega)
          go_wp2_with fail
          refine (impl_areExps gr _ cs _ HG.out (Hcv.out.below (HB.out.trans (hc.mono HB.out.size)))).mono ?_
          rintro e u4 ⟨rfl, hq4⟩
          replace hc := Below.next hc hq4
          clear hq4 c0_0 c0_1 c0_2 c1_0 c1_1
          obtain ⟨c0_0, c0_1, c0_2, c1_0, c1_1⟩ := HCC.out _ hc
          cases hc5 : cs.all (expB gr) with
          | false =>
            have Hhc5 := Lib.hid hc5
            clear hc5
            have HRE2 := Lib.hid (HR2.out.below hc)
            clear HR2
            have HBE := Lib.hid (HB.out.trans (hc.mono HB.out.size))
            have r2_0 := HRE2.out.cell (i := 0) rfl
            have r2_1 := HRE2.out.cell (i := 1) rfl
            have r2_2 := HRE2.out.cell (i := 2) rfl
            have fr2 := fun j => HRE2.out.frozen j
            go_wp2_with fail
            have HRF := Lib.hid (((HRE2.out.set 0 ((.slice none 0 0))).set 1 ((.slice none 0 0))).set 2 ((.slice none 0 0)))
            have HBF := Lib.hid (((HBE.out.setCell (p := ⟨w.heap.size + 1 + 1, 0, none⟩) (by show w.heap.size ≤ w.heap.size + 1 + 1; omega) ((.slice none 0 0))).setCell (p := ⟨w.heap.size + 1 + 1, 1, none⟩) (by show w.heap.size ≤ w.heap.size + 1 + 1; omega) ((.slice none 0 0))).setCell (p := ⟨w.heap.size + 1 + 1, 2, none⟩) (by show w.heap.size ≤ w.heap.size + 1 + 1; omega) ((.slice none 0 0)))
            clear r2_0 r2_1 r2_2 fr2
            have r2_0 := HRF.out.cell (i := 0) rfl
            have r2_1 := HRF.out.cell (i := 1) rfl
            have r2_2 := HRF.out.cell (i := 2) rfl
            try (go_wp2_with fail)
            have HVB : Hid (pbB gr bh bl m r cs = false) := by unfold Hid; simp [pbB, Hhc1.out, hc2, Hhc3.out, hc4, Hhc5.out, HL2.out]
            have HPR : Hid (pbR gr sBit bh bl m r cs = ⟨[], [], []⟩) := by unfold Hid pbR; rw [if_neg (by rw [HVB.out]; simp)]
            refine bodyPost_ret (v := .tuple #[.agg #[(.slice none 0 0), (.slice none 0 0), (.slice none 0 0)], .bool false]) (by simp [results, Try.results91, go_sem, r2_0, r2_1, r2_2]) rfl ⟨(by rw [HVB.out, HPR.out]; exact RetP.mk (OwnI.nil _ _) (OwnI.nil _ _) (OwnI.nil _ _)), HBF.out⟩
          | true =>
            have HCA : Hid (cs.all (expB gr) = true) := hc5
            have Hhc5 := Lib.hid hc5
            clear hc5
            go_wp2_with fail
            refine (impl_proveBit gr bh _ bl m r _ cs _ HG.out (Hbv.out.below (HB.out.trans (hc.mono HB.out.size))) sbh HM.out HR.out (Hcv.out.below (HB.out.trans (hc.mono HB.out.size))) (of_decide_eq_true HL2.out) HCA.out).mono ?_
            rintro e u5 ⟨⟨x0, x1, x2, rfl, ho0, ho1, ho2⟩, hq5⟩
            have hszv := hc.size
            obtain ⟨xa0, xc0, rfl⟩ := OwnI.shapeN (n := 2) ho0 (btD_len gr sBit bh m r cs).1
            obtain ⟨xa1, xc1, rfl⟩ := OwnI.shapeN (n := 2) ho1 (btD_len gr sBit bh m r cs).2.1
            obtain ⟨xa2, xc2, rfl⟩ := OwnI.shapeN (n := 2) ho2 (btD_len gr sBit bh m r cs).2.2
            replace hc := Below.next hc hq5
            clear hq5 c0_0 c0_1 c0_2 c1_0 c1_1
            obtain ⟨c0_0, c0_1, c0_2, c1_0, c1_1⟩ := HCC.out _ hc
            have HRE2 := Lib.hid (HR2.out.below hc)
            clear HR2
            have HBE := Lib.hid (HB.out.trans (hc.mono HB.out.size))
            have r2_0 := HRE2.out.cell (i := 0) rfl
            have r2_1 := HRE2.out.cell (i := 1) rfl
            have r2_2 := HRE2.out.cell (i := 2) rfl
            have fr2 := fun j => HRE2.out.frozen j
            go_wp2_with fail
            have HRF := Lib.hid (((HRE2.out.set 0 ((.slice xa0 2 xc0))).set 1 ((.slice xa1 2 xc1))).set 2 ((.slice xa2 2 xc2)))
            have HBF := Lib.hid (((HBE.out.setCell (p := ⟨w.heap.size + 1 + 1, 0, none⟩) (by show w.heap.size ≤ w.heap.size + 1 + 1; omega) ((.slice xa0 2 xc0))).setCell (p := ⟨w.heap.size + 1 + 1, 1, none⟩) (by show w.heap.size ≤ w.heap.size + 1 + 1; omega) ((.slice xa1 2 xc1))).setCell (p := ⟨w.heap.size + 1 + 1, 2, none⟩) (by show w.heap.size ≤ w.heap.size + 1 + 1; omega) ((.slice xa2 2 xc2)))
            clear r2_0 r2_1 r2_2 fr2
            have r2_0 := HRF.out.cell (i := 0) rfl
            have r2_1 := HRF.out.cell (i := 1) rfl
            have r2_2 := HRF.out.cell (i := 2) rfl
            try (go_wp2_with fail)
            have HVB : Hid (pbB gr bh bl m r cs = true) := by unfold Hid; simp [pbB, Hhc1.out, hc2, Hhc3.out, hc4, Hhc5.out, HL2.out]
            have HPR : Hid (pbR gr sBit bh bl m r cs = btD gr sBit bh m r cs) := by unfold Hid pbR; rw [if_pos HVB.out]
            refine bodyPost_ret (v := .tuple #[.agg #[(.slice xa0 2 xc0), (.slice xa1 2 xc1), (.slice xa2 2 xc2)], .bool true]) (by simp [results, Try.results91, go_sem, r2_0, r2_1, r2_2]) rfl ⟨(by rw [HVB.out, HPR.out]; exact RetP.mk ((((ho0.oth (b := w.heap.size + 1 + 1) (by omega) 0 ((.slice xa0 2 xc0))).oth (b := w.heap.size + 1 + 1) (by omega) 1 ((.slice xa1 2 xc1))).oth (b := w.heap.size + 1 + 1) (by omega) 2 ((.slice xa2 2 xc2))).mono (by omega)) ((((ho1.oth (b := w.heap.size + 1 + 1) (by omega) 0 ((.slice xa0 2 xc0))).oth (b := w.heap.size + 1 + 1) (by omega) 1 ((.slice xa1 2 xc1))).oth (b := w.heap.size + 1 + 1) (by omega) 2 ((.slice xa2 2 xc2))).mono (by omega)) ((((ho2.oth (b := w.heap.size + 1 + 1) (by omega) 0 ((.slice xa0 2 xc0))).oth (b := w.heap.size + 1 + 1) (by omega) 1 ((.slice xa1 2 xc1))).oth (b := w.heap.size + 1 + 1) (by omega) 2 ((.slice xa2 2 xc2))).mono (by omega))), HBF.out⟩
        | true =>
          have HL2 : Hid (decide (cs.length = 3) = false) := by have q := hc4; rw [bne_iff_ne] at q; exact decide_eq_false (by have := Ecv.out; omega)
          have HRE2 := Lib.hid (HR2.out.below hc)
          clear HR2
          have HBE := Lib.hid (HB.out.trans (hc.mono HB.out.size))
          have r2_0 := HRE2.out.cell (i := 0) rfl
          have r2_1 := HRE2.out.cell (i := 1) rfl
          have r2_2 := HRE2.out.cell (i := 2) rfl
          have fr2 := fun j => HRE2.out.frozen j
          go_wp2_with fail
          have HRF := Lib.hid (((HRE2.out.set 0 ((.slice none 0 0))).set 1 ((.slice none 0 0))).set 2 ((.slice none 0 0)))
          have HBF := Lib.hid (((HBE.out.setCell (p := ⟨w.heap.size + 1 + 1, 0, none⟩) (by show w.heap.size ≤ w.heap.size + 1 + 1; omega) ((.slice none 0 0))).setCell (p := ⟨w.heap.size + 1 + 1, 1, none⟩) (by show w.heap.size ≤ w.heap.size + 1 + 1; omega) ((.slice none 0 0))).setCell (p := ⟨w.heap.size + 1 + 1, 2, none⟩) (by show w.heap.size ≤ w.heap.size + 1 + 1; omega) ((.slice none 0 0)))
          clear r2_0 r2_1 r2_2 fr2
          have r2_0 := HRF.out.cell (i := 0) rfl
          have r2_1 := HRF.out.cell (i := 1) rfl
          have r2_2 := HRF.out.cell (i := 2) rfl
          try (go_wp2_with fail)
          have HVB : Hid (pbB gr bh bl m r cs = false) := by unfold Hid; simp [pbB, Hhc1.out, hc2, Hhc3.out, hc4, HL2.out]
          have HPR : Hid (pbR gr sBit bh bl m r cs = ⟨[], [], []⟩) := by unfold Hid pbR; rw [if_neg (by rw [HVB.out]; simp)]
          refine bodyPost_ret (v := .tuple #[.agg #[(.slice none 0 0), (.slice none 0 0), (.slice none 0 0)], .bool false]) (by simp [results, Try.results91, go_sem, r2_0, r2_1, r2_2]) rfl ⟨(by rw [HVB.out, HPR.out]; exact RetP.mk (OwnI.nil _ _) (OwnI.nil _ _) (OwnI.nil _ _)), HBF.out⟩
set_option maxRecDepth 100000 in
set_option maxHeartbeats 2000000 in
theorem spec_ProveBit (gr : GroupD) (bh : Int) (bv : Value) (bl : List Int) (m r : Int) (cv : Value) (cs : List Int) (w : World) (hb : Ints w bv bl) (ibh : I64 bh) (hm : I64 m) (hr : I64 r) (hcs : Ints w cv cs) :
    Calls Try.prog 92 #[.agg #[.int .i64 gr.p, .int .i64 gr.q, .int .i64 gr.g], .agg #[.int .i64 bh, bv], .int .i64 m, .int .i64 r, cv] w fun e w' => RetP e w' w.heap.size (pbB gr bh bl m r cs) (pbR gr sBit bh bl m r cs) ∧ Below w.heap.size w w' := by
  obtain ⟨bva, bvn, bvc, rfl⟩ := hb.shape
  have Ebv := Lib.hid hb.len
  have Kbv := Lib.hid hb.capMax
  have Hbv := Lib.hid hb
  clear hb
  obtain ⟨cva, cvn, cvc, rfl⟩ := hcs.shape
  have Ecv := Lib.hid hcs.len
  have Kcv := Lib.hid hcs.capMax
  have Hcv := Lib.hid hcs
  clear hcs
  obtain ⟨W, hW⟩ : ∃ W, W = ((w.alloc (.cells #[.int .i64 gr.p, .int .i64 gr.q, .int .i64 gr.g] 39)).alloc (.cells #[.int .i64 bh, (.slice bva bvn bvc)] 79)).alloc (.cells #[(.slice none 0 0), (.slice none 0 0), (.slice none 0 0)] 42) := ⟨_, rfl⟩
  have HB : Hid (Below w.heap.size w W) := by unfold Hid; rw [hW]; (repeat (first | exact Below.refl _ _ | assumption | refine Below.drew ?_ | refine Below.alloc ?_ (by first | (simp; done) | (simp; omega)) _ | refine Below.setCell ?_ (by first | (simp; done) | (simp; omega)) _))
  have c0_0 : W.cell? ⟨w.heap.size, 0, none⟩ = some (.int .i64 gr.p) := by rw [hW]; simp [go_sem]
  have c0_1 : W.cell? ⟨w.heap.size, 1, none⟩ = some (.int .i64 gr.q) := by rw [hW]; simp [go_sem]
  have c0_2 : W.cell? ⟨w.heap.size, 2, none⟩ = some (.int .i64 gr.g) := by rw [hW]; simp [go_sem]
  have c1_0 : W.cell? ⟨w.heap.size + 1, 0, none⟩ = some (.int .i64 bh) := by rw [hW]; simp [go_sem]
  have c1_1 : W.cell? ⟨w.heap.size + 1, 1, none⟩ = some ((.slice bva bvn bvc)) := by rw [hW]; simp [go_sem]
  have HR2 : Hid (BoxN W (w.heap.size + 1 + 1) 42 [(.slice none 0 0), (.slice none 0 0), (.slice none 0 0)]) := by unfold Hid; rw [hW]; have h := (BoxN.new ((w.alloc (.cells #[.int .i64 gr.p, .int .i64 gr.q, .int .i64 gr.g] 39)).alloc (.cells #[.int .i64 bh, (.slice bva bvn bvc)] 79)) [(.slice none 0 0), (.slice none 0 0), (.slice none 0 0)] 42); simpa using h
  have HSW : Hid (W.heap.size = w.heap.size + 3) := by unfold Hid; rw [hW]; simp
  have lr2 : w.heap.size + 1 + 1 < W.heap.size := by have := HSW.out; omega
  go_enter Try.func92, Try.ntmps92
  go_wp2_with fail
  rw [← hW]
  have hse : w.heap.size + 1 + 1 + 1 = W.heap.size := by have := HSW.out; omega
  (try rw [hse])
  clear hse
  clear hW
  have hc : Below W.heap.size W W := Below.refl _ _
  have HCC : Hid (∀ u, Below W.heap.size W u → u.cell? ⟨w.heap.size, 0, none⟩ = some (.int .i64 gr.p) ∧ u.cell? ⟨w.heap.size, 1, none⟩ = some (.int .i64 gr.q) ∧ u.cell? ⟨w.heap.size, 2, none⟩ = some (.int .i64 gr.g) ∧ u.cell? ⟨w.heap.size + 1, 0, none⟩ = some (.int .i64 bh) ∧ u.cell? ⟨w.heap.size + 1, 1, none⟩ = some ((.slice bva bvn bvc))) := fun u h => ⟨box_at c0_0 h, box_at c0_1 h, box_at c0_2 h, box_at c1_0 h, box_at c1_1 h⟩
  go_wp2_with fail
  refine (spec_l9Good gr bh _ bl _ (Hbv.out.below (HB.out.trans (hc.mono HB.out.size))) ibh).mono ?_
  rintro e u1 ⟨rfl, hq1⟩
  replace hc := Below.next hc hq1
  clear hq1 c0_0 c0_1 c0_2 c1_0 c1_1
  obtain ⟨c0_0, c0_1, c0_2, c1_0, c1_1⟩ := HCC.out _ hc
  cases hc1 : baB gr bh bl with
  | false =>
    have Hhc1 := Lib.hid hc1
    clear hc1
    have HRE2 := Lib.hid (HR2.out.below hc)
    clear HR2
    have HBE := Lib.hid (HB.out.trans (hc.mono HB.out.size))
    have r2_0 := HRE2.out.cell (i := 0) rfl
    have r2_1 := HRE2.out.cell (i := 1) rfl
    have r2_2 := HRE2.out.cell (i := 2) rfl
    have fr2 := fun j => HRE2.out.frozen j
    go_wp2_with fail
    have HRF := Lib.hid (((HRE2.out.set 0 ((.slice none 0 0))).set 1 ((.slice none 0 0))).set 2 ((.slice none 0 0)))
    have HBF := Lib.hid (((HBE.out.setCell (p := ⟨w.heap.size + 1 + 1, 0, none⟩) (by show w.heap.size ≤ w.heap.size + 1 + 1; omega) ((.slice none 0 0))).setCell (p := ⟨w.heap.size + 1 + 1, 1, none⟩) (by show w.heap.size ≤ w.heap.size + 1 + 1; omega) ((.slice none 0 0))).setCell (p := ⟨w.heap.size + 1 + 1, 2, none⟩) (by show w.heap.size ≤ w.heap.size + 1 + 1; omega) ((.slice none 0 0)))
    clear r2_0 r2_1 r2_2 fr2
    have r2_0 := HRF.out.cell (i := 0) rfl
    have r2_1 := HRF.out.cell (i := 1) rfl
    have r2_2 := HRF.out.cell (i := 2) rfl
    try (go_wp2_with fail)
    have HVB : Hid (pbB gr bh bl m r cs = false) := by unfold Hid; simp [pbB, Hhc1.out]
    have HPR : Hid (pbR gr sBit bh bl m r cs = ⟨[], [], []⟩) := by unfold Hid pbR; rw [if_neg (by rw [HVB.out]; simp)]
    refine bodyPost_ret (v := .tuple #[.agg #[(.slice none 0 0), (.slice none 0 0), (.slice none 0 0)], .bool false]) (by simp [results, Try.results92, go_sem, r2_0, r2_1, r2_2]) rfl ⟨(by rw [HVB.out, HPR.out]; exact RetP.mk (OwnI.nil _ _) (OwnI.nil _ _) (OwnI.nil _ _)), HBF.out⟩
  | true =>
    have HBA := Lib.hid (baB_parts hc1)
    have HG := Lib.hid (goodG_ok HBA.out.1)
    have sbh : Small bh := elB_small HG.out HBA.out.2.1
    have Hhc1 := Lib.hid hc1
    clear hc1
    go_wp2_with fail
    refine (spec_l1In m 0 1 _).mono ?_
    rintro e u2 ⟨rfl, rfl⟩
    cases hc2 : decide (0 ≤ m ∧ m ≤ 1) with
    | false =>
      have HRE2 := Lib.hid (HR2.out.below hc)
      clear HR2
      have HBE := Lib.hid (HB.out.trans (hc.mono HB.out.size))
      have r2_0 := HRE2.out.cell (i := 0) rfl
      have r2_1 := HRE2.out.cell (i := 1) rfl
      have r2_2 := HRE2.out.cell (i := 2) rfl
      have fr2 := fun j => HRE2.out.frozen j
      go_wp2_with fail
      have HRF := Lib.hid (((HRE2.out.set 0 ((.slice none 0 0))).set 1 ((.slice none 0 0))).set 2 ((.slice none 0 0)))
      have HBF := Lib.hid (((HBE.out.setCell (p := ⟨w.heap.size + 1 + 1, 0, none⟩) (by show w.heap.size ≤ w.heap.size + 1 + 1; omega) ((.slice none 0 0))).setCell (p := ⟨w.heap.size + 1 + 1, 1, none⟩) (by show w.heap.size ≤ w.heap.size + 1 + 1; omega) ((.slice none 0 0))).setCell (p := ⟨w.heap.size + 1 + 1, 2, none⟩) (by show w.heap.size ≤ w.heap.size + 1 + 1; omega) ((.slice none 0 0)))
      clear r2_0 r2_1 r2_2 fr2
      have r2_0 := HRF.out.cell (i := 0) rfl
      have r2_1 := HRF.out.cell (i := 1) rfl
      have r2_2 := HRF.out.cell (i := 2) rfl
      try (go_wp2_with fail)
      have HVB : Hid (pbB gr bh bl m r cs = false) := by unfold Hid; simp [pbB, Hhc1.out, hc2]
      have HPR : Hid (pbR gr sBit bh bl m r cs = ⟨[], [], []⟩) := by unfold Hid pbR; rw [if_neg (by rw [HVB.out]; simp)]
      refine bodyPost_ret (v := .tuple #[.agg #[(.slice none 0 0), (.slice none 0 0), (.slice none 0 0)], .bool false]) (by simp [results, Try.results92, go_sem, r2_0, r2_1, r2_2]) rfl ⟨(by rw [HVB.out, HPR.out]; exact RetP.mk (OwnI.nil _ _) (OwnI.nil _ _) (OwnI.nil _ _)), HBF.out⟩
    | true =>
      have HM : Hid (m = 0 ∨ m = 1) := by have q : 0 ≤ m ∧ m ≤ 1 := of_decide_eq_true hc2; unfold Hid; omega
      go_wp2_with fail
      refine (spec_gExps gr _ [r] _ HG.out (OwnI.lit (B := 0) _ (Nat.zero_le _) (l := [r]) (AllI64.cons hr AllI64.nil) rfl (by simp [maxLen]) 1 rfl).ints).mono ?_
      rintro e u3 ⟨rfl, hq3⟩
      replace hq3 := Below.next (keep_al (Below.refl _ _) _) hq3
      replace hc := Below.next hc hq3
      clear hq3 c0_0 c0_1 c0_2 c1_0 c1_1
      obtain ⟨c0_0, c0_1, c0_2, c1_0, c1_1⟩ := HCC.out _ hc
      cases hc3 : [r].all (expB gr) with
      | false =>
        have Hhc3 := Lib.hid hc3
        clear hc3
        have HRE2 := Lib.hid (HR2.out.below hc)
        clear HR2
        have HBE := Lib.hid (HB.out.trans (hc.mono HB.out.size))
        have r2_0 := HRE2.out.cell (i := 0) rfl
        have r2_1 := HRE2.out.cell (i := 1) rfl
        have r2_2 := HRE2.out.cell (i := 2) rfl
        have fr2 := fun j => HRE2.out.frozen j
        go_wp2_with fail
        have HRF := Lib.hid (((HRE2.out.set 0 ((.slice none 0 0))).set 1 ((.slice none 0 0))).set 2 ((.slice none 0 0)))
        have HBF := Lib.hid (((HBE.out.setCell (p := ⟨w.heap.size + 1 + 1, 0, none⟩) (by show w.heap.size ≤ w.heap.size + 1 + 1; omega) ((.slice none 0 0))).setCell (p := ⟨w.heap.size + 1 + 1, 1, none⟩) (by show w.heap.size ≤ w.heap.size + 1 + 1; omega) ((.slice none 0 0))).setCell (p := ⟨w.heap.size + 1 + 1, 2, none⟩) (by show w.heap.size ≤ w.heap.size + 1 + 1; omega) ((.slice none 0 0)))
        clear r2_0 r2_1 r2_2 fr2
        have r2_0 := HRF.out.cell (i := 0) rfl
        have r2_1 := HRF.out.cell (i := 1) rfl
        have r2_2 := HRF.out.cell (i := 2) rfl
        try (go_wp2_with fail)
        have HVB : Hid (pbB gr bh bl m r cs = false) := by unfold Hid; have qhc3 := Hhc3.out; simp only [List.all_cons, List.all_nil, Bool.and_true] at qhc3; simp [pbB, Hhc1.out, hc2, qhc3]
        have HPR : Hid (pbR gr sBit bh bl m r cs = ⟨[], [], []⟩) := by unfold Hid pbR; rw [if_neg (by rw [HVB.out]; simp)]
        refine bodyPost_ret (v := .tuple #[.agg #[(.slice none 0 0), (.slice none 0 0), (.slice none 0 0)], .bool false]) (by simp [results, Try.results92, go_sem, r2_0, r2_1, r2_2]) rfl ⟨(by rw [HVB.out, HPR.out]; exact RetP.mk (OwnI.nil _ _) (OwnI.nil _ _) (OwnI.nil _ _)), HBF.out⟩
      | true =>
        have HR : Hid (expB gr r = true) := by unfold Hid; simpa using hc3
        have Hhc3 := Lib.hid hc3
        clear hc3
        cases hc4 : ((cvn : Int) != 3) with
        | false =>
          have HL2 : Hid (decide (cs.length = 3) = true) := by have q := hc4; rw [bne_eq_false_iff_eq] at q; exact decide_eq_true (by have := Ecv.out; omega)
          go_wp2_with fail
          refine (spec_gExps gr _ cs _ HG.out (Hcv.out.below (HB.out.trans (hc.mono HB.out.size)))).mono ?_
          rintro e u4 ⟨rfl, hq4⟩
          replace hc := Below.next hc hq4
          clear hq4 c0_0 c0_1 c0_2 c1_0 c1_1
          obtain ⟨c0_0, c0_1, c0_2, c1_0, c1_1⟩ := HCC.out _ hc
          cases hc5 : cs.all (expB gr) with
          | false =>
            have Hhc5 := Lib.hid hc5
            clear hc5
            have HRE2 := Lib.hid (HR2.out.below hc)
            clear HR2
            have HBE := Lib.hid (HB.out.trans (hc.mono HB.out.size))
            have r2_0 := HRE2.out.cell (i := 0) rfl
            have r2_1 := HRE2.out.cell (i := 1) rfl
            have r2_2 := HRE2.out.cell (i := 2) rfl
            have fr2 := fun j => HRE2.out.frozen j
            go_wp2_with fail
            have HRF := Lib.hid (((HRE2.out.set 0 ((.slice none 0 0))).set 1 ((.slice none 0 0))).set 2 ((.slice none 0 0)))
            have HBF := Lib.hid (((HBE.out.setCell (p := ⟨w.heap.size + 1 + 1, 0, none⟩) (by show w.heap.size ≤ w.heap.size + 1 + 1; omega) ((.slice none 0 0))).setCell (p := ⟨w.heap.size + 1 + 1, 1, none⟩) (by show w.heap.size ≤ w.heap.size + 1 + 1; omega) ((.slice none 0 0))).setCell (p := ⟨w.heap.size + 1 + 1, 2, none⟩) (by show w.heap.size ≤ w.heap.size + 1 + 1; omega) ((.slice none 0 0)))
            clear r2_0 r2_1 r2_2 fr2
            have r2_0 := HRF.out.cell (i := 0) rfl
            have r2_1 := HRF.out.cell (i := 1) rfl
            have r2_2 := HRF.out.cell (i := 2) rfl
            try (go_wp2_with fail)
            have HVB : Hid (pbB gr bh bl m r cs = false) := by unfold Hid; have qhc3 := Hhc3.out; simp only [List.all_cons, List.all_nil, Bool.and_true] at qhc3; simp [pbB, Hhc1.out, hc2, qhc3, hc4, Hhc5.out, HL2.out]
            have HPR : Hid (pbR gr sBit bh bl m r cs = ⟨[], [], []⟩) := by unfold Hid pbR; rw [if_neg (by rw [HVB.out]; simp)]
            refine bodyPost_ret (v := .tuple #[.agg #[(.slice none 0 0), (.slice none 0 0), (.slice none 0 0)], .bool false]) (by simp [results, Try.results92, go_sem, r2_0, r2_1, r2_2]) rfl ⟨(by rw [HVB.out, HPR.out]; exact RetP.mk (OwnI.nil _ _) (OwnI.nil _ _) (OwnI.nil _ _)), HBF.out⟩
          | true =>
            have HCA : Hid (cs.all (expB gr) = true) := hc5
            have Hhc5 := Lib.hid hc5
            clear hc5
            go_wp2_with fail
            refine (spec_rBit gr bh _ bl m r _ cs _ HG.out (Hbv.out.below (HB.out.trans (hc.mono HB.out.size))) sbh HM.out HR.out (Hcv.out.below (HB.out.trans (hc.mono HB.out.size))) (of_decide_eq_true HL2.out) HCA.out).mono ?_
            rintro e u5 ⟨⟨x0, x1, x2, rfl, ho0, ho1, ho2⟩, hq5⟩
            have hszv := hc.size
            obtain ⟨xa0, xc0, rfl⟩ := OwnI.shapeN (n := 2) ho0 (btD_len gr sBit bh m r cs).1
            obtain ⟨xa1, xc1, rfl⟩ := OwnI.shapeN (n := 2) ho1 (btD_len gr sBit bh m r cs).2.1
            obtain ⟨xa2, xc2, rfl⟩ := OwnI.shapeN (n := 2) ho2 (btD_len gr sBit bh m r cs).2.2
            replace hc := Below.next hc hq5
            clear hq5 c0_0 c0_1 c0_2 c1_0 c1_1
            obtain ⟨c0_0, c0_1, c0_2, c1_0, c1_1⟩ := HCC.out _ hc
            have HRE2 := Lib.hid (HR2.out.below hc)
            clear HR2
            have HBE := Lib.hid (HB.out.trans (hc.mono HB.out.size))
            have r2_0 := HRE2.out.cell (i := 0) rfl
            have r2_1 := HRE2.out.cell (i := 1) rfl
            have r2_2 := HRE2.out.cell (i := 2) rfl
            have fr2 := fun j => HRE2.out.frozen j
            go_wp2_with fail
            have HRF := Lib.hid (((HRE2.out.set 0 ((.slice xa0 2 xc0))).set 1 ((.slice xa1 2 xc1))).set 2 ((.slice xa2 2 xc2)))
            have HBF := Lib.hid (((HBE.out.setCell (p := ⟨w.heap.size + 1 + 1, 0, none⟩) (by show w.heap.size ≤ w.heap.size + 1 + 1; omega) ((.slice xa0 2 xc0))).setCell (p := ⟨w.heap.size + 1 + 1, 1, none⟩) (by show w.heap.size ≤ w.heap.size + 1 + 1; omega) ((.slice xa1 2 xc1))).setCell (p := ⟨w.heap.size + 1 + 1, 2, none⟩) (by show w.heap.size ≤ w.heap.size + 1 + 1; omega) ((.slice xa2 2 xc2)))
            clear r2_0 r2_1 r2_2 fr2
            have r2_0 := HRF.out.cell (i := 0) rfl
            have r2_1 := HRF.out.cell (i := 1) rfl
            have r2_2 := HRF.out.cell (i := 2) rfl
            try (go_wp2_with fail)
            have HVB : Hid (pbB gr bh bl m r cs = true) := by unfold Hid; have qhc3 := Hhc3.out; simp only [List.all_cons, List.all_nil, Bool.and_true] at qhc3; simp [pbB, Hhc1.out, hc2, qhc3, hc4, Hhc5.out, HL2.out]
            have HPR : Hid (pbR gr sBit bh bl m r cs = btD gr sBit bh m r cs) := by unfold Hid pbR; rw [if_pos HVB.out]
            refine bodyPost_ret (v := .tuple #[.agg #[(.slice xa0 2 xc0), (.slice xa1 2 xc1), (.slice xa2 2 xc2)], .bool true]) (by simp [results, Try.results92, go_sem, r2_0, r2_1, r2_2]) rfl ⟨(by rw [HVB.out, HPR.out]; exact RetP.mk ((((ho0.oth (b := w.heap.size + 1 + 1) (by omega) 0 ((.slice xa0 2 xc0))).oth (b := w.heap.size + 1 + 1) (by omega) 1 ((.slice xa1 2 xc1))).oth (b := w.heap.size + 1 + 1) (by omega) 2 ((.slice xa2 2 xc2))).mono (by omega)) ((((ho1.oth (b := w.heap.size + 1 + 1) (by omega) 0 ((.slice xa0 2 xc0))).oth (b := w.heap.size + 1 + 1) (by omega) 1 ((.slice xa1 2 xc1))).oth (b := w.heap.size + 1 + 1) (by omega) 2 ((.slice xa2 2 xc2))).mono (by omega)) ((((ho2.oth (b := w.heap.size + 1 + 1) (by omega) 0 ((.slice xa0 2 xc0))).oth (b := w.heap.size + 1 + 1) (by omega) 1 ((.slice xa1 2 xc1))).oth (b := w.heap.size + 1 + 1) (by omega) 2 ((.slice xa2 2 xc2))).mono (by omega))), HBF.out⟩
        | true =>
          have HL2 : Hid (decide (cs.length = 3) = false) := by have q := hc4; rw [bne_iff_ne] at q; exact decide_eq_false (by have := Ecv.out; omega)
          have HRE2 := Lib.hid (HR2.out.below hc)
          clear HR2
          have HBE := Lib.hid (HB.out.trans (hc.mono HB.out.size))
          have r2_0 := HRE2.out.cell (i := 0) rfl
          have r2_1 := HRE2.out.cell (i := 1) rfl
          have r2_2 := HRE2.out.cell (i := 2) rfl
          have fr2 := fun j => HRE2.out.frozen j
          go_wp2_with fail
          have HRF := Lib.hid (((HRE2.out.set 0 ((.slice none 0 0))).set 1 ((.slice none 0 0))).set 2 ((.slice none 0 0)))
          have HBF := Lib.hid (((HBE.out.setCell (p := ⟨w.heap.size + 1 + 1, 0, none⟩) (by show w.heap.size ≤ w.heap.size + 1 + 1; omega) ((.slice none 0 0))).setCell (p := ⟨w.heap.size + 1 + 1, 1, none⟩) (by show w.heap.size ≤ w.heap.size + 1 + 1; omega) ((.slice none 0 0))).setCell (p := ⟨w.heap.size + 1 + 1, 2, none⟩) (by show w.heap.size ≤ w.heap.size + 1 + 1; omega) ((.slice none 0 0)))
          clear r2_0 r2_1 r2_2 fr2
          have r2_0 := HRF.out.cell (i := 0) rfl
          have r2_1 := HRF.out.cell (i := 1) rfl
          have r2_2 := HRF.out.cell (i := 2) rfl
          try (go_wp2_with fail)
          have HVB : Hid (pbB gr bh bl m r cs = false) := by unfold Hid; have qhc3 := Hhc3.out; simp only [List.all_cons, List.all_nil, Bool.and_true] at qhc3; simp [pbB, Hhc1.out, hc2, qhc3, hc4, HL2.out]
          have HPR : Hid (pbR gr sBit bh bl m r cs = ⟨[], [], []⟩) := by unfold Hid pbR; rw [if_neg (by rw [HVB.out]; simp)]
          refine bodyPost_ret (v := .tuple #[.agg #[(.slice none 0 0), (.slice none 0 0), (.slice none 0 0)], .bool false]) (by simp [results, Try.results92, go_sem, r2_0, r2_1, r2_2]) rfl ⟨(by rw [HVB.out, HPR.out]; exact RetP.mk (OwnI.nil _ _) (OwnI.nil _ _) (OwnI.nil _ _)), HBF.out⟩
set_option maxRecDepth 100000 in
set_option maxHeartbeats 2000000 in
theorem impl_VerifyBit (gr : GroupD) (bh : Int) (bv : Value) (bl : List Int) (c0 : Int) (pv : Value) (d : ProofD) (w : World) (hb : Ints w bv bl) (ibh : I64 bh) (ic0 : I64 c0) (hp : PfR w pv d) :
    Calls Try.prog 93 #[.agg #[.int .i64 gr.p, .int .i64 gr.q, .int .i64 gr.g], .agg #[.int .i64 bh, bv], .int .i64 c0, pv] w fun e w' => e = .returned (.tuple #[.bool (vbR gr sBit bh bl c0 d), .bool (voA gr bh bl c0)]) ∧ Below w.heap.size w w' := by
  obtain ⟨bva, bvn, bvc, rfl⟩ := hb.shape
  have Ebv := Lib.hid hb.len
  have Kbv := Lib.hid hb.capMax
  have Hbv := Lib.hid hb
  clear hb
  obtain ⟨xcv, xhv, xrv, rfl, hxc, hxh, hxr⟩ := hp
  obtain ⟨xca, xcn, xcc, rfl⟩ := hxc.shape
  have Exc := Lib.hid hxc.len
  have Kxc := Lib.hid hxc.capMax
  have Hxc := Lib.hid hxc
  clear hxc
  obtain ⟨xha, xhn, xhc, rfl⟩ := hxh.shape
  have Exh := Lib.hid hxh.len
  have Kxh := Lib.hid hxh.capMax
  have Hxh := Lib.hid hxh
  clear hxh
  obtain ⟨xra, xrn, xrc, rfl⟩ := hxr.shape
  have Exr := Lib.hid hxr.len
  have Kxr := Lib.hid hxr.capMax
  have Hxr := Lib.hid hxr
  clear hxr
  obtain ⟨W, hW⟩ : ∃ W, W = ((w.alloc (.cells #[.int .i64 gr.p, .int .i64 gr.q, .int .i64 gr.g] 39)).alloc (.cells #[.int .i64 bh, (.slice bva bvn bvc)] 79)).alloc (.cells #[(.slice xca xcn xcc), (.slice xha xhn xhc), (.slice xra xrn xrc)] 42) := ⟨_, rfl⟩
  have HB : Hid (Below w.heap.size w W) := by unfold Hid; rw [hW]; (repeat (first | exact Below.refl _ _ | assumption | refine Below.drew ?_ | refine Below.alloc ?_ (by first | (simp; done) | (simp; omega)) _ | refine Below.setCell ?_ (by first | (simp; done) | (simp; omega)) _))
  have c0_0 : W.cell? ⟨w.heap.size, 0, none⟩ = some (.int .i64 gr.p) := by rw [hW]; simp [go_sem]
  have c0_1 : W.cell? ⟨w.heap.size, 1, none⟩ = some (.int .i64 gr.q) := by rw [hW]; simp [go_sem]
  have c0_2 : W.cell? ⟨w.heap.size, 2, none⟩ = some (.int .i64 gr.g) := by rw [hW]; simp [go_sem]
  have c1_0 : W.cell? ⟨w.heap.size + 1, 0, none⟩ = some (.int .i64 bh) := by rw [hW]; simp [go_sem]
  have c1_1 : W.cell? ⟨w.heap.size + 1, 1, none⟩ = some ((.slice bva bvn bvc)) := by rw [hW]; simp [go_sem]
  have c2_0 : W.cell? ⟨w.heap.size + 1 + 1, 0, none⟩ = some ((.slice xca xcn xcc)) := by rw [hW]; simp [go_sem]
  have c2_1 : W.cell? ⟨w.heap.size + 1 + 1, 1, none⟩ = some ((.slice xha xhn xhc)) := by rw [hW]; simp [go_sem]
  have c2_2 : W.cell? ⟨w.heap.size + 1 + 1, 2, none⟩ = some ((.slice xra xrn xrc)) := by rw [hW]; simp [go_sem]
  have HSW : Hid (W.heap.size = w.heap.size + 3) := by unfold Hid; rw [hW]; simp
  go_enter Try.func93, Try.ntmps93
  go_wp2_with fail
  rw [← hW]
  have hse : w.heap.size + 1 + 1 + 1 = W.heap.size := by have := HSW.out; omega
  (try rw [hse])
  clear hse
  clear hW
  have hc : Below W.heap.size W W := Below.refl _ _
  have HCC : Hid (∀ u, Below W.heap.size W u → u.cell? ⟨w.heap.size, 0, none⟩ = some (.int .i64 gr.p) ∧ u.cell? ⟨w.heap.size, 1, none⟩ = some (.int .i64 gr.q) ∧ u.cell? ⟨w.heap.size, 2, none⟩ = some (.int .i64 gr.g) ∧ u.cell? ⟨w.heap.size + 1, 0, none⟩ = some (.int .i64 bh) ∧ u.cell? ⟨w.heap.size + 1, 1, none⟩ = some ((.slice bva bvn bvc)) ∧ u.cell? ⟨w.heap.size + 1 + 1, 0, none⟩ = some ((.slice xca xcn xcc)) ∧ u.cell? ⟨w.heap.size + 1 + 1, 1, none⟩ = some ((.slice xha xhn xhc)) ∧ u.cell? ⟨w.heap.size + 1 + 1, 2, none⟩ = some ((.slice xra xrn xrc))) := fun u h => ⟨box_at c0_0 h, box_at c0_1 h, box_at c0_2 h, box_at c1_0 h, box_at c1_1 h, box_at c2_0 h, box_at c2_1 h, box_at c2_2 h⟩
  go_wp2_with fail
  refine (impl_IsValidBases gr bh _ bl _ (Hbv.out.below (HB.out.trans (hc.mono HB.out.size))) ibh).mono ?_
  rintro e u1 ⟨rfl, hq1⟩
  replace hc := Below.next hc hq1
  clear hq1 c0_0 c0_1 c0_2 c1_0 c1_1 c2_0 c2_1 c2_2
  obtain ⟨c0_0, c0_1, c0_2, c1_0, c1_1, c2_0, c2_1, c2_2⟩ := HCC.out _ hc
  cases hc1 : baB gr bh bl with
  | false =>
    have Hhc1 := Lib.hid hc1
    clear hc1
    go_wp2_with fail
    have HV : Hid ((.tuple #[.bool (vbR gr sBit bh bl c0 d), .bool (voA gr bh bl c0)] : Value) = .tuple #[.bool false, .bool false]) := by unfold Hid; simp [vbR, voA, Hhc1.out]
    go_ret2
    exact ⟨congrArg Ending.returned HV.out.symm, HB.out.trans (hc.mono HB.out.size)⟩
  | true =>
    have HBA := Lib.hid (baB_parts hc1)
    have HG := Lib.hid (goodG_ok HBA.out.1)
    have sbh : Small bh := elB_small HG.out HBA.out.2.1
    have Hhc1 := Lib.hid hc1
    clear hc1
    go_wp2_with fail
    refine (impl_has gr c0 _ HG.out).mono ?_
    rintro e u2 ⟨rfl, hq2⟩
    replace hc := Below.next hc hq2
    clear hq2 c0_0 c0_1 c0_2 c1_0 c1_1 c2_0 c2_1 c2_2
    obtain ⟨c0_0, c0_1, c0_2, c1_0, c1_1, c2_0, c2_1, c2_2⟩ := HCC.out _ hc
    cases hc2 : elB gr c0 with
    | false =>
      have Hhc2 := Lib.hid hc2
      clear hc2
      go_wp2_with fail
      have HV : Hid ((.tuple #[.bool (vbR gr sBit bh bl c0 d), .bool (voA gr bh bl c0)] : Value) = .tuple #[.bool false, .bool false]) := by unfold Hid; simp [vbR, voA, Hhc1.out, Hhc2.out]
      go_ret2
      exact ⟨congrArg Ending.returned HV.out.symm, HB.out.trans (hc.mono HB.out.size)⟩
    | true =>
      have sc0 : Small c0 := elB_small HG.out hc2
      have Hhc2 := Lib.hid hc2
      clear hc2
      go_wp2_with fail
      refine (impl_verifyBit gr bh _ bl c0 _ d _ HG.out (Hbv.out.below (HB.out.trans (hc.mono HB.out.size))) (PfR.mk (Hxc.out.below (HB.out.trans (hc.mono HB.out.size))) (Hxh.out.below (HB.out.trans (hc.mono HB.out.size))) (Hxr.out.below (HB.out.trans (hc.mono HB.out.size)))) sbh sc0).mono ?_
      rintro e u3 ⟨rfl, hq3⟩
      replace hc := Below.next hc hq3
      clear hq3 c0_0 c0_1 c0_2 c1_0 c1_1 c2_0 c2_1 c2_2
      obtain ⟨c0_0, c0_1, c0_2, c1_0, c1_1, c2_0, c2_1, c2_2⟩ := HCC.out _ hc
      cases hc3 : btV gr sBit bh c0 d with
      | false =>
        have Hhc3 := Lib.hid hc3
        clear hc3
        go_wp2_with fail
        have HV : Hid ((.tuple #[.bool (vbR gr sBit bh bl c0 d), .bool (voA gr bh bl c0)] : Value) = .tuple #[.bool false, .bool true]) := by unfold Hid; simp [vbR, voA, Hhc1.out, Hhc2.out, Hhc3.out]
        go_ret2
        exact ⟨congrArg Ending.returned HV.out.symm, HB.out.trans (hc.mono HB.out.size)⟩
      | true =>
        have Hhc3 := Lib.hid hc3
        clear hc3
        go_wp2_with fail
        have HV : Hid ((.tuple #[.bool (vbR gr sBit bh bl c0 d), .bool (voA gr bh bl c0)] : Value) = .tuple #[.bool true, .bool true]) := by unfold Hid; simp [vbR, voA, Hhc1.out, Hhc2.out, Hhc3.out]
        go_ret2
        exact ⟨congrArg Ending.returned HV.out.symm, HB.out.trans (hc.mono HB.out.size)⟩
set_option maxRecDepth 100000 in
set_option maxHeartbeats 2000000 in
theorem spec_VerifyBit (gr : GroupD) (bh : Int) (bv : Value) (bl : List Int) (c0 : Int) (pv : Value) (d : ProofD) (w : World) (hb : Ints w bv bl) (ibh : I64 bh) (ic0 : I64 c0) (hp : PfR w pv d) :
    Calls Try.prog 95 #[.agg #[.int .i64 gr.p, .int .i64 gr.q, .int .i64 gr.g], .agg #[.int .i64 bh, bv], .int .i64 c0, pv] w fun e w' => e = .returned (.tuple #[.bool (vbR gr sBit bh bl c0 d), .bool (voA gr bh bl c0)]) ∧ Below w.heap.size w w' := by
  obtain ⟨bva, bvn, bvc, rfl⟩ := hb.shape
  have Ebv := Lib.hid hb.len
  have Kbv := Lib.hid hb.capMax
  have Hbv := Lib.hid hb
  clear hb
  obtain ⟨xcv, xhv, xrv, rfl, hxc, hxh, hxr⟩ := hp
  obtain ⟨xca, xcn, xcc, rfl⟩ := hxc.shape
  have Exc := Lib.hid hxc.len
  have Kxc := Lib.hid hxc.capMax
  have Hxc := Lib.hid hxc
  clear hxc
  obtain ⟨xha, xhn, xhc, rfl⟩ := hxh.shape
  have Exh := Lib.hid hxh.len
  have Kxh := Lib.hid hxh.capMax
  have Hxh := Lib.hid hxh
  clear hxh
  obtain ⟨xra, xrn, xrc, rfl⟩ := hxr.shape
  have Exr := Lib.hid hxr.len
  have Kxr := Lib.hid hxr.capMax
  have Hxr := Lib.hid hxr
  clear hxr
  obtain ⟨W, hW⟩ : ∃ W, W = ((w.alloc (.cells #[.int .i64 gr.p, .int .i64 gr.q, .int .i64 gr.g] 39)).alloc (.cells #[.int .i64 bh, (.slice bva bvn bvc)] 79)).alloc (.cells #[(.slice xca xcn xcc), (.slice xha xhn xhc), (.slice xra xrn xrc)] 42) := ⟨_, rfl⟩
  have HB : Hid (Below w.heap.size w W) := by unfold Hid; rw [hW]; (repeat (first | exact Below.refl _ _ | assumption | refine Below.drew ?_ | refine Below.alloc ?_ (by first | (simp; done) | (simp; omega)) _ | refine Below.setCell ?_ (by first | (simp; done) | (simp; omega)) _))
  have c0_0 : W.cell? ⟨w.heap.size, 0, none⟩ = some (.int .i64 gr.p) := by rw [hW]; simp [go_sem]
  have c0_1 : W.cell? ⟨w.heap.size, 1, none⟩ = some (.int .i64 gr.q) := by rw [hW]; simp [go_sem]
  have c0_2 : W.cell? ⟨w.heap.size, 2, none⟩ = some (.int .i64 gr.g) := by rw [hW]; simp [go_sem]
  have c1_0 : W.cell? ⟨w.heap.size + 1, 0, none⟩ = some (.int .i64 bh) := by rw [hW]; simp [go_sem]
  have c1_1 : W.cell? ⟨w.heap.size + 1, 1, none⟩ = some ((.slice bva bvn bvc)) := by rw [hW]; simp [go_sem]
  have c2_0 : W.cell? ⟨w.heap.size + 1 + 1, 0, none⟩ = some ((.slice xca xcn xcc)) := by rw [hW]; simp [go_sem]
  have c2_1 : W.cell? ⟨w.heap.size + 1 + 1, 1, none⟩ = some ((.slice xha xhn xhc)) := by rw [hW]; simp [go_sem]
  have c2_2 : W.cell? ⟨w.heap.size + 1 + 1, 2, none⟩ = some ((.slice xra xrn xrc)) := by rw [hW]; simp [go_sem]
  have HSW : Hid (W.heap.size = w.heap.size + 3) := by unfold Hid; rw [hW]; simp
  go_enter Try.func95, Try.ntmps95
  go_wp2_with fail
  rw [← hW]
  have hse : w.heap.size + 1 + 1 + 1 = W.heap.size := by have := HSW.out; omega
  (try rw [hse])
  clear hse
  clear hW
  have hc : Below W.heap.size W W := Below.refl _ _
  have HCC : Hid (∀ u, Below W.heap.size W u → u.cell? ⟨w.heap.size, 0, none⟩ = some (.int .i64 gr.p) ∧ u.cell? ⟨w.heap.size, 1, none⟩ = some (.int .i64 gr.q) ∧ u.cell? ⟨w.heap.size, 2, none⟩ = some (.int .i64 gr.g) ∧ u.cell? ⟨w.heap.size + 1, 0, none⟩ = some (.int .i64 bh) ∧ u.cell? ⟨w.heap.size + 1, 1, none⟩ = some ((.slice bva bvn bvc)) ∧ u.cell? ⟨w.heap.size + 1 + 1, 0, none⟩ = some ((.slice xca xcn xcc)) ∧ u.cell? ⟨w.heap.size + 1 + 1, 1, none⟩ = some ((.slice xha xhn xhc)) ∧ u.cell? ⟨w.heap.size + 1 + 1, 2, none⟩ = some ((.slice xra xrn xrc))) := fun u h => ⟨box_at c0_0 h, box_at c0_1 h, box_at c0_2 h, box_at c1_0 h, box_at c1_1 h, box_at c2_0 h, box_at c2_1 h, box_at c2_2 h⟩
  go_wp2_with fail
  refine (spec_l9Good gr bh _ bl _ (Hbv.out.below (HB.out.trans (hc.mono HB.out.size))) ibh).mono ?_
  rintro e u1 ⟨rfl, hq1⟩
  replace hc := Below.next hc hq1
  clear hq1 c0_0 c0_1 c0_2 c1_0 c1_1 c2_0 c2_1 c2_2
  obtain ⟨c0_0, c0_1, c0_2, c1_0, c1_1, c2_0, c2_1, c2_2⟩ := HCC.out _ hc
  cases hc1 : baB gr bh bl with
  | false =>
    have Hhc1 := Lib.hid hc1
    clear hc1
    go_wp2_with fail
    have HV : Hid ((.tuple #[.bool (vbR gr sBit bh bl c0 d), .bool (voA gr bh bl c0)] : Value) = .tuple #[.bool false, .bool false]) := by unfold Hid; simp [vbR, voA, Hhc1.out]
    go_ret2
    exact ⟨congrArg Ending.returned HV.out.symm, HB.out.trans (hc.mono HB.out.size)⟩
  | true =>
    have HBA := Lib.hid (baB_parts hc1)
    have HG := Lib.hid (goodG_ok HBA.out.1)
    have sbh : Small bh := elB_small HG.out HBA.out.2.1
    have Hhc1 := Lib.hid hc1
    clear hc1
    go_wp2_with fail
    refine (spec_gIs gr _ [c0] _ HG.out (OwnI.lit (B := 0) _ (Nat.zero_le _) (l := [c0]) (AllI64.cons ic0 AllI64.nil) rfl (by simp [maxLen]) 1 rfl).ints).mono ?_
    rintro e u2 ⟨rfl, hq2⟩
    replace hq2 := Below.next (keep_al (Below.refl _ _) _) hq2
    replace hc := Below.next hc hq2
    clear hq2 c0_0 c0_1 c0_2 c1_0 c1_1 c2_0 c2_1 c2_2
    obtain ⟨c0_0, c0_1, c0_2, c1_0, c1_1, c2_0, c2_1, c2_2⟩ := HCC.out _ hc
    cases hc2 : [c0].all (elB gr) with
    | false =>
      have Hhc2 := Lib.hid hc2
      clear hc2
      go_wp2_with fail
      have HV : Hid ((.tuple #[.bool (vbR gr sBit bh bl c0 d), .bool (voA gr bh bl c0)] : Value) = .tuple #[.bool false, .bool false]) := by unfold Hid; have qhc2 := Hhc2.out; simp only [List.all_cons, List.all_nil, Bool.and_true] at qhc2; simp [vbR, voA, Hhc1.out, qhc2]
      go_ret2
      exact ⟨congrArg Ending.returned HV.out.symm, HB.out.trans (hc.mono HB.out.size)⟩
    | true =>
      have sc0 : Small c0 := elB_small HG.out (by simpa using hc2)
      have Hhc2 := Lib.hid hc2
      clear hc2
      go_wp2_with fail
      refine (spec_rIsBit gr bh _ bl c0 _ d _ HG.out (Hbv.out.below (HB.out.trans (hc.mono HB.out.size))) (PfR.mk (Hxc.out.below (HB.out.trans (hc.mono HB.out.size))) (Hxh.out.below (HB.out.trans (hc.mono HB.out.size))) (Hxr.out.below (HB.out.trans (hc.mono HB.out.size)))) sbh sc0).mono ?_
      rintro e u3 ⟨rfl, hq3⟩
      replace hc := Below.next hc hq3
      clear hq3 c0_0 c0_1 c0_2 c1_0 c1_1 c2_0 c2_1 c2_2
      obtain ⟨c0_0, c0_1, c0_2, c1_0, c1_1, c2_0, c2_1, c2_2⟩ := HCC.out _ hc
      cases hc3 : btV gr sBit bh c0 d with
      | false =>
        have Hhc3 := Lib.hid hc3
        clear hc3
        go_wp2_with fail
        have HV : Hid ((.tuple #[.bool (vbR gr sBit bh bl c0 d), .bool (voA gr bh bl c0)] : Value) = .tuple #[.bool false, .bool true]) := by unfold Hid; have qhc2 := Hhc2.out; simp only [List.all_cons, List.all_nil, Bool.and_true] at qhc2; simp [vbR, voA, Hhc1.out, qhc2, Hhc3.out]
        go_ret2
        exact ⟨congrArg Ending.returned HV.out.symm, HB.out.trans (hc.mono HB.out.size)⟩
      | true =>
        have Hhc3 := Lib.hid hc3
        clear hc3
        go_wp2_with fail
        have HV : Hid ((.tuple #[.bool (vbR gr sBit bh bl c0 d), .bool (voA gr bh bl c0)] : Value) = .tuple #[.bool true, .bool true]) := by unfold Hid; have qhc2 := Hhc2.out; simp only [List.all_cons, List.all_nil, Bool.and_true] at qhc2; simp [vbR, voA, Hhc1.out, qhc2, Hhc3.out]
        go_ret2
        exact ⟨congrArg Ending.returned HV.out.symm, HB.out.trans (hc.mono HB.out.size)⟩
end Go.Proofs.Ytboahnklilmdpaa
